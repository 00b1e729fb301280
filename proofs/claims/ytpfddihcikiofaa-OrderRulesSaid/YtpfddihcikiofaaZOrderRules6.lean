/- The law OrderRules holds of every input. Part 6 of 6: PxSubstSGet, GSubst, GApply1, GMapA, PxSoriteslaw07Fine, PxSoriteslaw07Of, GApply, GApplyG, GClauseM, GClause, GRules14, GOrderRules, LawOrderRules. -/
import Derived.Test.YtpfddihcikiofaaZOrderRules2
import Derived.Test.YtpfddihcikiofaaZOrderRules4
import Derived.Test.YtpfddihcikiofaaZOrderRules3
import Derived.Test.YtpfddihcikiofaaZOrderRules5
import Derived.Test.YtpfddihcikiofaaRows
import Derived.WalkKit
import Derived.ProofKit
import Derived.OpenShut
import Derived.ShutString
import Derived.ChangeOld
import Derived.Below
import Derived.SizedLaws
import Derived.Test.YtpfddihcikiofaaZOrderRules1
namespace Go.Proofs.Ytpfddihcikiofaa.P
open Go.RowKit Go.Proofs.YtpfddihcikiofaaW.PrintWords Go.Proofs.YtpfddihcikiofaaW.PrintLast Go.Proofs.YtpfddihcikiofaaW.PrintMore
set_option linter.unusedVariables false
set_option linter.unusedSimpArgs false
section
attribute [local go_sem] yaq_ yao_ max_two min_two yal_ yak_ yap_ yan_
def subst_S_Get.l0 : Nat → Int → List (S114) → Int → Int → Option (Int × (List (S30)) × Bool)
 | 0, _, _, _, _ => none
 | k + 1, x1, x8, x9, x10 => if x10 < x9 then (if 0 ≤ x10 then (if x10 < (x8.length : Int) then (if ((rd_T114 x8 x10).f0) = x1 then (some ((rd_T114 x8 x10).f1.f0, (rd_T114 x8 x10).f1.f1, true)) else (subst_S_Get.l0 k x1 x8 x9 (wrap64 (x10 + 1)))) else (none)) else (none)) else (some (0, ([] : List (S30)), false))
def subst_S_Get.f (k : Nat) (l0 : List (S114)) (a1 : Int) : Option (Int × (List (S30)) × Bool) := subst_S_Get.l0 k a1 l0 (l0.length : Int) 0
set_option maxHeartbeats 8000000 in
set_option maxRecDepth 100000 in
theorem subst_S_Get.calls (k : Nat) (P0_ : Nat → Prop) (A0 : Option Addr) (c0 : Nat) (l0 : List (S114)) (a1 : Int) (r1 : Int) (r2 : List (S30)) (r3 : Bool) (w : World) (hs0 : Kd.V k114 114 w w.heap.size (fun k_ => P0_ k_) (.slice A0 l0.length c0) l0) (h : subst_S_Get.f k l0 a1 = some (r1, r2, r3)) :
  Calls Try.prog 85 #[.slice A0 l0.length c0, .int .i64 a1] w fun e w' => ∃ v1_ : Value, e = .returned (.tuple #[.agg #[.int .i64 r1, v1_], .bool r3]) ∧ Kd.V k30 30 w' w.heap.size (fun k_ => (P0_ k_ ∨ w.heap.size ≤ k_)) v1_ r2 ∧ Below w.heap.size w w' := by
 have hu30 := Try.underlying30
 have hu114 := Try.underlying114
 have HO0 := Az_.mk (show Kd.V k114 114 w w.heap.size (fun k_ => (P0_ k_ ∨ w.heap.size ≤ k_)) (.slice A0 l0.length c0) l0 from Kd.V_mono hs0 (fun k_ hk => .inl hk))
 have HB := Az_.mk (Below.refl w.heap.size w)
 have H : (subst_S_Get.l0 k a1 l0 (l0.length : Int) 0) = some (r1, r2, r3) := h
 clear h
 have H' := Az_.mk H
 clear H
 go_enter Try.func85, Try.ntmps85
 go_wp2_with (first | ((with_reducible refine yaj_ (N := 4) rfl ?_); refine yai_ ?hg (N := 4) ?hd (cs := #[.int .i64 0, .slice none 0 0]) (t := 30) ?hr ?_; (case hd => rfl); (case hg => rfl); (case hr => first | (go_simp; done) | (go_simp; rfl)); intro gb101 hg w3 hbox hb; have n0_ := Az_.mk (Kd.V_below (Kd.V_elderB (by (with_reducible repeat (first | apply Kd.V_alloc | apply Kd.V_drewN | apply Kd.V_drew)); exact HO0.out) gb101 (Nat.le_of_eq hg.symm)) hb); have n1_ := Az_.mk (bT_ (by repeat (first | (with_reducible first | exact HB.out | apply bA_ | apply bN_ | apply bD_) | exact HB.out)) hb); have n2_ := Az_.mk (hbox); have n3_ := Az_.mk ((by rw [hg]; exact (bZ_ (by repeat (first | (with_reducible first | exact HB.out | apply bA_ | apply bN_ | apply bD_) | exact HB.out))) : w.heap.size ≤ gb101)); have n4_ := Az_.mk ((by rw [hg]; exact (bZ_ (by repeat (first | (with_reducible first | exact HB.out | apply bA_ | apply bN_ | apply bD_) | exact HB.out))) : w.heap.size ≤ gb101)); clear HO0; clear HB; have HO0 := n0_; have HB := n1_; have BK101 := n2_; have GW101 := n3_; have GE101 := n4_; clear n0_ n1_ n2_ n3_ n4_; clear hb hbox hg))
 go_loopg [10] k (fun kq v10 w' => ∃ (x10_1 : Int) (x102000_1 : Int), v10 = .int .i64 x10_1 ∧ Az_ (subst_S_Get.l0 kq a1 l0 (l0.length : Int) x10_1 = some (r1, r2, r3)) ∧ Az_ (kq ≤ k) ∧ Az_ (Kd.V k114 114 w' w.heap.size (fun k_ => (P0_ k_ ∨ w.heap.size ≤ k_) ∧ k_ ≠ gb101) (.slice A0 l0.length c0) l0) ∧ Az_ (w'.heap[gb101]? = some (.cells #[.int .i64 x102000_1, (.slice none 0 0)] 30 (0, 0))) ∧ Az_ (Below w.heap.size w w'))
 case atStart => exact ⟨(0), (0), (by first | rfl | (simp; done) | (simp [*]; done)), H', ⟨Nat.le_refl _⟩, ⟨by (with_reducible repeat (first | apply Kd.V_alloc | apply Kd.V_drewN | apply Kd.V_drew)); exact HO0.out⟩, ⟨by (with_reducible repeat (first | refine kN_ ?_ _ | refine kD_ ?_ | refine kA_ ?_ _)); exact BK101.out⟩, ⟨by repeat (first | (with_reducible first | exact HB.out | apply bA_ | apply bN_ | apply bD_ | refine bS_ ?_ GE101.out) | exact HB.out)⟩⟩
 case round =>
  clear H'
  try clear p2
  obtain ⟨x10_1, x102000_1, rfl, HA, HK1, HO_8, BK101, HB⟩ := hrel
  cases gk with
  | zero => exact absurd HA.out (by simp [subst_S_Get.l0])
  | succ k1 =>
   have H := HA.out
   clear HA
   simp only [subst_S_Get.l0] at H
   by_cases c4 : x10_1 < (l0.length : Int)
   ·rw [if_pos c4] at H
    have c4b0 : decide (x10_1 < (l0.length : Int)) = true := decide_eq_true c4
    clear c4
    by_cases c5 : 0 ≤ x10_1
    ·rw [if_pos c5] at H
     have c5b0 : decide (0 ≤ x10_1) = true := decide_eq_true c5
     clear c5
     by_cases c6 : x10_1 < (l0.length : Int)
     ·rw [if_pos c6] at H
      have c6b0 : decide (x10_1 < (l0.length : Int)) = true := decide_eq_true c6
      clear c6
      by_cases c7 : ((rd_T114 l0 x10_1).f0) = a1
      ·rw [if_pos c7] at H
       have c7b0 : (((rd_T114 l0 x10_1).f0) == a1) = true := beq_iff_eq.mpr c7
       have c7b1 : (((rd_T114 l0 x10_1).f0) != a1) = false := bne_eq_false_iff_eq.mpr c7
       clear c7
       simp only [Option.some.injEq, Prod.mk.injEq] at H
       obtain ⟨rfl, rfl, rfl⟩ := H
       have p102 : 0 ≤ (x10_1 : Int) := of_decide_eq_true (by first | (with_reducible assumption) | assumption)
       have q102 : x10_1 < (l0.length : Int) := of_decide_eq_true (by first | (with_reducible assumption) | assumption)
       obtain ⟨ad102, A102_2, c102_2, e102, hx102_0, hx102_1, hx102_2, hl102_2, hi102_2⟩ := at_T114 (Kd.V_reads' HO_8.out).2.2 x10_1 p102 q102
       cases e102
       obtain ⟨ce102, hce102, hMe102, hcc102⟩ := Kd.V_get HO_8.out z114 x10_1 p102 (by first | exact q102 | exact of_decide_eq_true (by first | (with_reducible assumption) | assumption) | (have e_ := (Kd.V_reads' HO_8.out).1; omega))
       obtain ⟨ua102_2, uc102_2, rfl, ul102_2, ge102_2⟩ := k114_openF hMe102
       have hv102_2 := hcc102 2 _ rfl
       rw [add_field _ _ 2 (by omega)] at hv102_2
       replace hv102_2 := Option.some.inj (hv102_2.symm.trans hx102_2)
       injection hv102_2 with hva_ hvn_ hvc_
       rw [hva_] at ge102_2
       rw [hvc_] at ul102_2
       have HL102_2 := Az_.mk (show Kd.V k30 30 _ w.heap.size _ _ ((rd_T114 l0 x10_1).f1.f1) from Kd.V_mk ul102_2 ge102_2)
       clear hva_ hvn_ hvc_ ge102_2 ul102_2
       clear hcc102 hce102
       have HR102_2 := Az_.mk hi102_2
       have HC102_2 := Az_.mk hl102_2
       clear hi102_2 hl102_2
       replace p102 := eq_true p102
       replace q102 := eq_true q102
       go_wp2_with (first | ((with_reducible refine yaj_ (N := 7) rfl ?_); refine yai_ ?hg (N := 7) ?hd (cs := #[.int .i64 0, .int .i64 0, .slice none 0 0]) (t := 114) ?hr ?_; (case hd => rfl); (case hg => rfl); (case hr => first | (go_simp; done) | (go_simp; rfl)); intro gb103 hg w8 hbox hb; have n0_ := Az_.mk (Kd.V_below (Kd.V_elderB (by (with_reducible repeat (first | apply Kd.V_alloc | apply Kd.V_drewN | apply Kd.V_drew)); exact HO_8.out) gb103 (Nat.le_of_eq hg.symm)) hb); have n1_ := Az_.mk (Kd.V_below (Kd.V_elderB (by (with_reducible repeat (first | apply Kd.V_alloc | apply Kd.V_drewN | apply Kd.V_drew)); exact HL102_2.out) gb103 (Nat.le_of_eq hg.symm)) hb); have n2_ := Az_.mk (kB_ (g := gb101) (o := .cells #[.int .i64 x102000_1, .slice none 0 0] 30 (0, 0)) (by (with_reducible repeat (first | refine kN_ ?_ _ | refine kD_ ?_ | refine kA_ ?_ _)); exact BK101.out) hb); have n3_ := Az_.mk (Kd.C_below (by repeat (first | (with_reducible exact HR102_2.out) | (with_reducible refine Kd.C_alloc ?_ _) | (with_reducible refine Kd.C_drewN ?_ _) | (with_reducible refine Kd.C_drew ?_) | exact HR102_2.out)) hb); have n4_ := Az_.mk (bT_ (by repeat (first | (with_reducible first | exact HB.out | apply bA_ | apply bN_ | apply bD_ | refine bS_ ?_ GE101.out) | exact HB.out)) hb); have n5_ := Az_.mk (hbox); have n6_ := Az_.mk ((by rw [hg]; exact (bZ_ (by repeat (first | (with_reducible first | exact HB.out | apply bA_ | apply bN_ | apply bD_ | refine bS_ ?_ GE101.out) | exact HB.out))) : w.heap.size ≤ gb103)); have n7_ := Az_.mk ((by rw [hg]; exact (bZ_ (by repeat (first | (with_reducible first | exact HB.out | apply bA_ | apply bN_ | apply bD_ | refine bS_ ?_ GE101.out) | exact HB.out))) : w.heap.size ≤ gb103)); have n8_ := Az_.mk ((by rw [hg]; exact Nat.ne_of_lt (blk_lt (g := gb101) (o := .cells #[.int .i64 x102000_1, .slice none 0 0] 30 (0, 0)) (by (with_reducible repeat (first | refine kN_ ?_ _ | refine kD_ ?_ | refine kA_ ?_ _)); exact BK101.out)) : gb101 ≠ gb103)); have n9_ := Az_.mk ((by rw [hg]; exact Nat.ne_of_gt (blk_lt (g := gb101) (o := .cells #[.int .i64 x102000_1, .slice none 0 0] 30 (0, 0)) (by (with_reducible repeat (first | refine kN_ ?_ _ | refine kD_ ?_ | refine kA_ ?_ _)); exact BK101.out)) : gb103 ≠ gb101)); clear HO_8; clear HL102_2; clear BK101; clear HR102_2; clear HB; have HO_8 := n0_; have HL102_2 := n1_; have BK101 := n2_; have HR102_2 := n3_; have HB := n4_; have BK103 := n5_; have GW103 := n6_; have GE103 := n7_; have NB101_103 := n8_; have NB103_101 := n9_; clear n0_ n1_ n2_ n3_ n4_ n5_ n6_ n7_ n8_ n9_; clear hb hbox hg; have hnb9 := NB103_101.out; have hnc9 := NB101_103.out; have hcz10_0 : w8.cell? ⟨gb103, 0, none⟩ = some (.int .i64 0) := (yaa_ BK103.out 0).trans rfl; have hcz10_1 : w8.cell? ⟨gb103, 1, none⟩ = some (.int .i64 0) := (yaa_ BK103.out 1).trans rfl; have hcz10_2 : w8.cell? ⟨gb103, 2, none⟩ = some (.slice none 0 0) := (yaa_ BK103.out 2).trans rfl; have hfz10_0 := yab_ BK103.out 0; have hfz10_1 := yab_ BK103.out 1; have hfz10_2 := yab_ BK103.out 2; have hcz11_0 : w8.cell? ⟨gb101, 0, none⟩ = some (.int .i64 x102000_1) := (yaa_ BK101.out 0).trans rfl; have hcz11_1 : w8.cell? ⟨gb101, 1, none⟩ = some (.slice none 0 0) := (yaa_ BK101.out 1).trans rfl; have hfz11_0 := yab_ BK101.out 0; have hfz11_1 := yab_ BK101.out 1))
       refine bodyPost_ret (results_ct rfl _ _ gb101 30 #[.int .i64 ((rd_T114 l0 x10_1).f1.f0), .slice A102_2 ((rd_T114 l0 x10_1).f1.f1).length c102_2] (0, 0) _ rfl (by (with_reducible repeat (first | refine kN_ ?_ _ | refine kD_ ?_ | refine kA_ ?_ _)); refine blk_put (cs := #[.int .i64 ((rd_T114 l0 x10_1).f1.f0), .slice none 0 0]) ?_ 1 _ rfl; (with_reducible repeat (first | refine kN_ ?_ _ | refine kD_ ?_ | refine kA_ ?_ _)); refine blk_put (cs := #[.int .i64 x102000_1, .slice none 0 0]) ?_ 0 _ rfl; (with_reducible repeat (first | refine kN_ ?_ _ | refine kD_ ?_ | refine kA_ ?_ _)); refine blk_far ?_ NB101_103.out _; (with_reducible repeat (first | refine kN_ ?_ _ | refine kD_ ?_ | refine kA_ ?_ _)); refine blk_far ?_ NB101_103.out _; (with_reducible repeat (first | refine kN_ ?_ _ | refine kD_ ?_ | refine kA_ ?_ _)); refine blk_far ?_ NB101_103.out _; (with_reducible repeat (first | refine kN_ ?_ _ | refine kD_ ?_ | refine kA_ ?_ _)); exact BK101.out) Try.underlying30 rfl (by kernel_rfl)) rfl ?_
       exact ⟨_, by first | rfl | (simp [yae_, yad_] <;> rfl) | (simp [*, yae_, yad_] <;> rfl), by (with_reducible repeat (first | apply Kd.V_alloc | apply Kd.V_drewN | apply Kd.V_drew)); exact Kd.V_mono (Kd.V_far (p := ⟨gb101, 1, none⟩) (Kd.V_far (p := ⟨gb101, 0, none⟩) (Kd.V_far (p := ⟨gb103, 2, none⟩) (Kd.V_far (p := ⟨gb103, 1, none⟩) (Kd.V_far (p := ⟨gb103, 0, none⟩) (Kd.V_mono (Kd.V_mono HL102_2.out (fun k_ hk => (⟨hk, hk.2⟩ : _ ∧ k_ ≠ gb103))) (fun k_ hk => (⟨hk, hk.1.1.2⟩ : _ ∧ k_ ≠ gb101))) (fun _ hk => hk.1.2) (.int .i64 ((rd_T114 l0 x10_1).f0))) (fun _ hk => hk.1.2) (.int .i64 ((rd_T114 l0 x10_1).f1.f0))) (fun _ hk => hk.1.2) (.slice A102_2 ((rd_T114 l0 x10_1).f1.f1).length c102_2)) (fun _ hk => hk.2) (.int .i64 ((rd_T114 l0 x10_1).f1.f0))) (fun _ hk => hk.2) (.slice A102_2 ((rd_T114 l0 x10_1).f1.f1).length c102_2)) (fun _ hk => hk.1.1.1.1), by repeat (first | (with_reducible first | exact HB.out | apply bA_ | apply bN_ | apply bD_ | refine bS_ ?_ GE101.out | refine bS_ ?_ GE103.out) | exact HB.out)⟩
      ·rw [if_neg c7] at H
       have c7b0 : (((rd_T114 l0 x10_1).f0) == a1) = false := beq_eq_false_iff_ne.mpr c7
       have c7b1 : (((rd_T114 l0 x10_1).f0) != a1) = true := bne_iff_ne.mpr c7
       have H' := Az_.mk H
       clear H
       have p102 : 0 ≤ (x10_1 : Int) := of_decide_eq_true (by first | (with_reducible assumption) | assumption)
       have q102 : x10_1 < (l0.length : Int) := of_decide_eq_true (by first | (with_reducible assumption) | assumption)
       obtain ⟨ad102, A102_2, c102_2, e102, hx102_0, hx102_1, hx102_2, hl102_2, hi102_2⟩ := at_T114 (Kd.V_reads' HO_8.out).2.2 x10_1 p102 q102
       cases e102
       obtain ⟨ce102, hce102, hMe102, hcc102⟩ := Kd.V_get HO_8.out z114 x10_1 p102 (by first | exact q102 | exact of_decide_eq_true (by first | (with_reducible assumption) | assumption) | (have e_ := (Kd.V_reads' HO_8.out).1; omega))
       obtain ⟨ua102_2, uc102_2, rfl, ul102_2, ge102_2⟩ := k114_openF hMe102
       have hv102_2 := hcc102 2 _ rfl
       rw [add_field _ _ 2 (by omega)] at hv102_2
       replace hv102_2 := Option.some.inj (hv102_2.symm.trans hx102_2)
       injection hv102_2 with hva_ hvn_ hvc_
       rw [hva_] at ge102_2
       rw [hvc_] at ul102_2
       have HL102_2 := Az_.mk (show Kd.V k30 30 _ w.heap.size _ _ ((rd_T114 l0 x10_1).f1.f1) from Kd.V_mk ul102_2 ge102_2)
       clear hva_ hvn_ hvc_ ge102_2 ul102_2
       clear hcc102 hce102
       have HR102_2 := Az_.mk hi102_2
       have HC102_2 := Az_.mk hl102_2
       clear hi102_2 hl102_2
       replace p102 := eq_true p102
       replace q102 := eq_true q102
       go_wp2_with (first | ((with_reducible refine yaj_ (N := 7) rfl ?_); refine yai_ ?hg (N := 7) ?hd (cs := #[.int .i64 0, .int .i64 0, .slice none 0 0]) (t := 114) ?hr ?_; (case hd => rfl); (case hg => rfl); (case hr => first | (go_simp; done) | (go_simp; rfl)); intro gb103 hg w12 hbox hb; have n0_ := Az_.mk (Kd.V_below (Kd.V_elderB (by (with_reducible repeat (first | apply Kd.V_alloc | apply Kd.V_drewN | apply Kd.V_drew)); exact HO_8.out) gb103 (Nat.le_of_eq hg.symm)) hb); have n1_ := Az_.mk (Kd.V_below (Kd.V_elderB (by (with_reducible repeat (first | apply Kd.V_alloc | apply Kd.V_drewN | apply Kd.V_drew)); exact HL102_2.out) gb103 (Nat.le_of_eq hg.symm)) hb); have n2_ := Az_.mk (kB_ (g := gb101) (o := .cells #[.int .i64 x102000_1, .slice none 0 0] 30 (0, 0)) (by (with_reducible repeat (first | refine kN_ ?_ _ | refine kD_ ?_ | refine kA_ ?_ _)); exact BK101.out) hb); have n3_ := Az_.mk (Kd.C_below (by repeat (first | (with_reducible exact HR102_2.out) | (with_reducible refine Kd.C_alloc ?_ _) | (with_reducible refine Kd.C_drewN ?_ _) | (with_reducible refine Kd.C_drew ?_) | exact HR102_2.out)) hb); have n4_ := Az_.mk (bT_ (by repeat (first | (with_reducible first | exact HB.out | apply bA_ | apply bN_ | apply bD_ | refine bS_ ?_ GE101.out) | exact HB.out)) hb); have n5_ := Az_.mk (hbox); have n6_ := Az_.mk ((by rw [hg]; exact (bZ_ (by repeat (first | (with_reducible first | exact HB.out | apply bA_ | apply bN_ | apply bD_ | refine bS_ ?_ GE101.out) | exact HB.out))) : w.heap.size ≤ gb103)); have n7_ := Az_.mk ((by rw [hg]; exact (bZ_ (by repeat (first | (with_reducible first | exact HB.out | apply bA_ | apply bN_ | apply bD_ | refine bS_ ?_ GE101.out) | exact HB.out))) : w.heap.size ≤ gb103)); have n8_ := Az_.mk ((by rw [hg]; exact Nat.ne_of_lt (blk_lt (g := gb101) (o := .cells #[.int .i64 x102000_1, .slice none 0 0] 30 (0, 0)) (by (with_reducible repeat (first | refine kN_ ?_ _ | refine kD_ ?_ | refine kA_ ?_ _)); exact BK101.out)) : gb101 ≠ gb103)); have n9_ := Az_.mk ((by rw [hg]; exact Nat.ne_of_gt (blk_lt (g := gb101) (o := .cells #[.int .i64 x102000_1, .slice none 0 0] 30 (0, 0)) (by (with_reducible repeat (first | refine kN_ ?_ _ | refine kD_ ?_ | refine kA_ ?_ _)); exact BK101.out)) : gb103 ≠ gb101)); clear HO_8; clear HL102_2; clear BK101; clear HR102_2; clear HB; have HO_8 := n0_; have HL102_2 := n1_; have BK101 := n2_; have HR102_2 := n3_; have HB := n4_; have BK103 := n5_; have GW103 := n6_; have GE103 := n7_; have NB101_103 := n8_; have NB103_101 := n9_; clear n0_ n1_ n2_ n3_ n4_ n5_ n6_ n7_ n8_ n9_; clear hb hbox hg; have hnb13 := NB103_101.out; have hnc13 := NB101_103.out; have hcz14_0 : w12.cell? ⟨gb103, 0, none⟩ = some (.int .i64 0) := (yaa_ BK103.out 0).trans rfl; have hcz14_1 : w12.cell? ⟨gb103, 1, none⟩ = some (.int .i64 0) := (yaa_ BK103.out 1).trans rfl; have hcz14_2 : w12.cell? ⟨gb103, 2, none⟩ = some (.slice none 0 0) := (yaa_ BK103.out 2).trans rfl; have hfz14_0 := yab_ BK103.out 0; have hfz14_1 := yab_ BK103.out 1; have hfz14_2 := yab_ BK103.out 2))
       go_roundg k1
       case measure => have := HK1.out; omega
       case rel => exact ⟨(wrap64 (x10_1 + 1)), (x102000_1), (by first | rfl | (simp; done) | (simp [*]; done)), H', ⟨by have := HK1.out; omega⟩, ⟨by (with_reducible repeat (first | apply Kd.V_alloc | apply Kd.V_drewN | apply Kd.V_drew)); exact Kd.V_mono (Kd.V_far (p := ⟨gb103, 2, none⟩) (Kd.V_far (p := ⟨gb103, 1, none⟩) (Kd.V_far (p := ⟨gb103, 0, none⟩) (Kd.V_mono HO_8.out (fun k_ hk => (⟨hk, hk.2⟩ : _ ∧ k_ ≠ gb103))) (fun _ hk => hk.2) (.int .i64 ((rd_T114 l0 x10_1).f0))) (fun _ hk => hk.2) (.int .i64 ((rd_T114 l0 x10_1).f1.f0))) (fun _ hk => hk.2) (.slice A102_2 ((rd_T114 l0 x10_1).f1.f1).length c102_2)) (fun _ hk => ⟨hk.1.1.1, hk.1.1.2⟩)⟩, ⟨by (with_reducible repeat (first | refine kN_ ?_ _ | refine kD_ ?_ | refine kA_ ?_ _)); refine blk_far ?_ NB101_103.out _; (with_reducible repeat (first | refine kN_ ?_ _ | refine kD_ ?_ | refine kA_ ?_ _)); refine blk_far ?_ NB101_103.out _; (with_reducible repeat (first | refine kN_ ?_ _ | refine kD_ ?_ | refine kA_ ?_ _)); refine blk_far ?_ NB101_103.out _; (with_reducible repeat (first | refine kN_ ?_ _ | refine kD_ ?_ | refine kA_ ?_ _)); exact BK101.out⟩, ⟨by repeat (first | (with_reducible first | exact HB.out | apply bA_ | apply bN_ | apply bD_ | refine bS_ ?_ GE101.out | refine bS_ ?_ GE103.out) | exact HB.out)⟩⟩
     ·rw [if_neg c6] at H
      exact absurd H (by simp)
    ·rw [if_neg c5] at H
     exact absurd H (by simp)
   ·rw [if_neg c4] at H
    have c4b0 : decide (x10_1 < (l0.length : Int)) = false := decide_eq_false c4
    clear c4
    simp only [Option.some.injEq, Prod.mk.injEq] at H
    obtain ⟨rfl, rfl, rfl⟩ := H
    have hcz15_0 : wr.cell? ⟨gb101, 0, none⟩ = some (.int .i64 x102000_1) := (yaa_ BK101.out 0).trans rfl
    have hcz15_1 : wr.cell? ⟨gb101, 1, none⟩ = some (.slice none 0 0) := (yaa_ BK101.out 1).trans rfl
    have hfz15_0 := yab_ BK101.out 0
    have hfz15_1 := yab_ BK101.out 1
    go_wp2
    refine bodyPost_ret (results_ct rfl _ _ gb101 30 #[.int .i64 0, .slice none 0 0] (0, 0) _ rfl (by (with_reducible repeat (first | refine kN_ ?_ _ | refine kD_ ?_ | refine kA_ ?_ _)); refine blk_put (cs := #[.int .i64 0, .slice none 0 0]) ?_ 1 _ rfl; (with_reducible repeat (first | refine kN_ ?_ _ | refine kD_ ?_ | refine kA_ ?_ _)); refine blk_put (cs := #[.int .i64 x102000_1, .slice none 0 0]) ?_ 0 _ rfl; (with_reducible repeat (first | refine kN_ ?_ _ | refine kD_ ?_ | refine kA_ ?_ _)); exact BK101.out) Try.underlying30 rfl (by kernel_rfl)) rfl ?_
    exact ⟨_, by first | rfl | (simp [yae_, yad_] <;> rfl) | (simp [*, yae_, yad_] <;> rfl), by first | exact Kd.R_nil _ _ _ _ _ | exact Kd.N_nil _ _ _ _ _ | exact Kd.V_nil _ _ _ _ _ | exact Kd.Q_nil _ _ _ _ _ | exact Kd.S_nil _ _ _ _ _, by repeat (first | (with_reducible first | exact HB.out | apply bA_ | apply bN_ | apply bD_ | refine bS_ ?_ GE101.out) | exact HB.out)⟩
end
section
attribute [local go_sem] yaq_ yao_ max_two min_two yal_ yak_ yap_ yan_
theorem variable_calls (v : Int) (w : World) : Calls Try.prog 83 #[.int .i64 v] w fun e w' => e = .returned (.agg #[.int .i64 (wrap64 (-1 - v)), .slice none 0 0]) ∧ Below w.heap.size w w' := by
 go_enter Try.func83, Try.ntmps83
 go_wp2
 refine bodyPost_ret (results_cell_row rfl _ _ w.heap.size 30 #[.int .i64 (wrap64 (-1 - v)), .slice none 0 0] (0, 0) _ rfl (heap_alloc_new w _) Try.underlying30 rfl (by kernel_rfl)) rfl ?_
 exact ⟨rfl, bA_ (Below.refl _ _) _⟩
end
section
attribute [local go_sem] yaq_ yao_ max_two min_two yal_ yak_ yap_ yan_
def substVar.f (v : Int) : Option (Int × List S30) := some (wrap64 (-1 - v), [])
theorem substVar.calls (v : Int) (r1 : Int) (r2 : List S30) (w : World) (h : substVar.f v = some (r1, r2)) : Calls Try.prog 83 #[.int .i64 v] w fun e w' => ∃ v1 : Value, e = .returned (.agg #[.int .i64 r1, v1]) ∧ Kd.R k30 30 w' w.heap.size (fun _ => True) v1 r2 ∧ Below w.heap.size w w' := by
 unfold substVar.f at h
 injection h with h
 injection h with h1 h2
 subst h1 h2
 exact (variable_calls v w).mono (fun e w' ⟨h1, h2⟩ => ⟨_, h1, Kd.R_nil _ _ _ _ _, h2⟩)
def subst_S_Apply_1.f (k : Nat) (a0 : Int) (l1 : List (S114)) : Option (Int × (List (S30))) := (subst_S_Get.f k l1 a0).bind fun bt122 => (if bt122.2.2 = true then ((term_Clone.f k bt122.1 bt122.2.1).bind fun bt128 => (some (bt128.1, bt128.2))) else ((substVar.f a0).bind fun bt132 => (some (bt132.1, bt132.2))))
set_option maxHeartbeats 8000000 in
set_option maxRecDepth 100000 in
theorem subst_S_Apply_1.calls (gq : Nat) (k : Nat) (a0 : Int) (A1 : Option Addr) (c1 : Nat) (l1 : List (S114)) (r1 : Int) (r2 : List (S30)) (w : World) (hr1 : Kd.C k114 w A1 l1.length l1) (hc1 : l1.length ≤ c1) (hq : w.heap[gq]? = some (.cells #[.slice A1 l1.length c1] 62 (0, 0))) (h : subst_S_Apply_1.f k a0 l1 = some (r1, r2)) :
  Calls Try.prog 84 #[.int .i64 a0, .pointer (some ⟨gq, 0, none⟩)] w fun e w' => ∃ v1_ : Value, e = .returned (.agg #[.int .i64 r1, v1_]) ∧ Kd.R k30 30 w' w.heap.size (fun _ => True) v1_ r2 ∧ Below w.heap.size w w' := by
 have hu30 := Try.underlying30
 have HR1 := Az_.mk hr1
 have HC1 := Az_.mk hc1
 clear hr1 hc1
 have HQ : Az_ (∀ w1, Below w.heap.size w w1 → w1.heap[gq]? = some (.cells #[.slice A1 l1.length c1] 62 (0, 0))) := ⟨fun w1 hb => kB_ hq hb⟩
 clear hq
 have HB := Az_.mk (Below.refl w.heap.size w)
 have H : ((subst_S_Get.f k l1 a0).bind fun bt122 => (if bt122.2.2 = true then ((term_Clone.f k bt122.1 bt122.2.1).bind fun bt128 => (some (bt128.1, bt128.2))) else ((substVar.f a0).bind fun bt132 => (some (bt132.1, bt132.2))))) = some (r1, r2) := h
 clear h
 replace H := Option.bind_eq_some_iff.mp H
 obtain ⟨⟨t122, t123, t126⟩, A30, H⟩ := H
 replace H : (if t126 = true then ((term_Clone.f k t122 t123).bind fun bt128 => (some (bt128.1, bt128.2))) else ((substVar.f a0).bind fun bt132 => (some (bt132.1, bt132.2)))) = some (r1, r2) := H
 have A3 := Az_.mk A30
 clear A30
 by_cases c4 : t126 = true
 ·subst c4
  have H1 : ((term_Clone.f k t122 t123).bind fun bt128 => (some (bt128.1, bt128.2))) = some (r1, r2) := by rw [if_pos rfl] at H; exact H
  clear H
  have H := H1
  clear H1
  replace H := Option.bind_eq_some_iff.mp H
  obtain ⟨⟨t128, t129⟩, A50, H⟩ := H
  replace H : (some (t128, t129)) = some (r1, r2) := H
  have A5 := Az_.mk A50
  clear A50
  simp only [Option.some.injEq, Prod.mk.injEq] at H
  obtain ⟨rfl, rfl⟩ := H
  go_enter Try.func84, Try.ntmps84
  go_wp2_with (first | ((with_reducible refine yaj_ (N := 3) rfl ?_); refine yai_ ?hg (N := 3) ?hd (cs := #[.int .i64 0, .slice none 0 0]) (t := 30) ?hr ?_; (case hd => rfl); (case hg => rfl); (case hr => first | (go_simp; done) | (go_simp; rfl)); intro gb121 hg w6 hbox hb; have n0_ := Az_.mk (bT_ (by repeat (first | (with_reducible first | exact HB.out | apply bA_ | apply bN_ | apply bD_) | exact HB.out)) hb); have n1_ := Az_.mk (hbox); have n2_ := Az_.mk ((by rw [hg]; exact (bZ_ (by repeat (first | (with_reducible first | exact HB.out | apply bA_ | apply bN_ | apply bD_) | exact HB.out))) : w.heap.size ≤ gb121)); have n3_ := Az_.mk ((by rw [hg]; exact (bZ_ (by repeat (first | (with_reducible first | exact HB.out | apply bA_ | apply bN_ | apply bD_) | exact HB.out))) : w.heap.size ≤ gb121)); clear HB; have HB := n0_; have BK121 := n1_; have GW121 := n2_; have GE121 := n3_; clear n0_ n1_ n2_ n3_; clear hb hbox hg; have hqc : w6.cell? ⟨gq, 0, none⟩ = some (.slice A1 l1.length c1) := (yaa_ (HQ.out _ HB.out) 0).trans rfl) | ((with_reducible refine yah_ (f := 85) rfl ?_); refine goesL_ (some 9) rfl rfl Try.func85 (by kernel_rfl) rfl #[.slice A1 l1.length c1, .int .i64 a0] rfl (by (try simp only [List.map_toArray, List.map_cons, List.map_nil]); first | done | rfl | (simp only [List.length_drop, List.length_take]; rfl)) ?_; (with_reducible refine (subst_S_Get.calls k (fun k_ => k_ < w.heap.size) _ _ l1 a0 t122 t123 true _ ?side1 A3.out).mono ?_); (case side1 => exact Kd.V_mk HC1.out (Kd.F_below (Kd.C_F k114_heap HR1.out) (by repeat (first | (with_reducible first | exact HB.out | apply bA_ | apply bN_ | apply bD_ | refine bS_ ?_ GE121.out) | exact HB.out)))); rintro e w7 ⟨v124, rfl, ho0, hb⟩; refine ⟨_, rfl, ?_⟩; have n0_ := Az_.mk (Kd.V_lower (Kd.V_mono (ok' := fun k_ => k_ ≠ gb121) ho0 (fun k_ hk_ => Or.elim hk_ (fun hs_ => fun e_ => Nat.not_le.2 hs_ (by rw [e_]; exact GW121.out)) (fun hn_ => (Kd.freshB (g := gb121) (o := .cells #[.int .i64 0, .slice none 0 0] 30 (0, 0)) (by (with_reducible repeat (first | refine kN_ ?_ _ | refine kD_ ?_ | refine kA_ ?_ _)); exact BK121.out) k_ hn_)))) (bZ_ (by repeat (first | (with_reducible first | exact HB.out | apply bA_ | apply bN_ | apply bD_ | refine bS_ ?_ GE121.out) | exact HB.out)))); have n1_ := Az_.mk (kB_ (g := gb121) (o := .cells #[.int .i64 0, .slice none 0 0] 30 (0, 0)) (by (with_reducible repeat (first | refine kN_ ?_ _ | refine kD_ ?_ | refine kA_ ?_ _)); exact BK121.out) hb); have n2_ := Az_.mk (bT_ (by repeat (first | (with_reducible first | exact HB.out | apply bA_ | apply bN_ | apply bD_ | refine bS_ ?_ GE121.out) | exact HB.out)) hb); clear BK121; clear HB; have HO125 := n0_; have BK121 := n1_; have HB := n2_; clear n0_ n1_ n2_; (try clear hb); (try clear hb2); (try clear hk); (try clear hi); (try clear ho0)) | ((with_reducible refine yaj_ (N := 4) rfl ?_); refine yai_ ?hg (N := 4) ?hd (cs := #[.int .i64 0, .slice none 0 0]) (t := 30) ?hr ?_; (case hd => rfl); (case hg => rfl); (case hr => first | (go_simp; done) | (go_simp; rfl)); intro gb127 hg w8 hbox hb; have n0_ := Az_.mk (Kd.V_below (Kd.V_elderB (by (with_reducible repeat (first | apply Kd.V_alloc | apply Kd.V_drewN | apply Kd.V_drew)); exact HO125.out) gb127 (Nat.le_of_eq hg.symm)) hb); have n1_ := Az_.mk (kB_ (g := gb121) (o := .cells #[.int .i64 0, .slice none 0 0] 30 (0, 0)) (by (with_reducible repeat (first | refine kN_ ?_ _ | refine kD_ ?_ | refine kA_ ?_ _)); exact BK121.out) hb); have n2_ := Az_.mk (bT_ (by repeat (first | (with_reducible first | exact HB.out | apply bA_ | apply bN_ | apply bD_ | refine bS_ ?_ GE121.out) | exact HB.out)) hb); have n3_ := Az_.mk (hbox); have n4_ := Az_.mk ((by rw [hg]; exact (bZ_ (by repeat (first | (with_reducible first | exact HB.out | apply bA_ | apply bN_ | apply bD_ | refine bS_ ?_ GE121.out) | exact HB.out))) : w.heap.size ≤ gb127)); have n5_ := Az_.mk ((by rw [hg]; exact (bZ_ (by repeat (first | (with_reducible first | exact HB.out | apply bA_ | apply bN_ | apply bD_ | refine bS_ ?_ GE121.out) | exact HB.out))) : w.heap.size ≤ gb127)); have n6_ := Az_.mk ((by rw [hg]; exact Nat.ne_of_lt (blk_lt (g := gb121) (o := .cells #[.int .i64 0, .slice none 0 0] 30 (0, 0)) (by (with_reducible repeat (first | refine kN_ ?_ _ | refine kD_ ?_ | refine kA_ ?_ _)); exact BK121.out)) : gb121 ≠ gb127)); have n7_ := Az_.mk ((by rw [hg]; exact Nat.ne_of_gt (blk_lt (g := gb121) (o := .cells #[.int .i64 0, .slice none 0 0] 30 (0, 0)) (by (with_reducible repeat (first | refine kN_ ?_ _ | refine kD_ ?_ | refine kA_ ?_ _)); exact BK121.out)) : gb127 ≠ gb121)); clear HO125; clear BK121; clear HB; have HO125 := n0_; have BK121 := n1_; have HB := n2_; have BK127 := n3_; have GW127 := n4_; have GE127 := n5_; have NB121_127 := n6_; have NB127_121 := n7_; clear n0_ n1_ n2_ n3_ n4_ n5_ n6_ n7_; clear hb hbox hg; have hnb9 := NB127_121.out; have hnc9 := NB121_127.out; have hcz10_0 : w8.cell? ⟨gb127, 0, none⟩ = some (.int .i64 0) := (yaa_ BK127.out 0).trans rfl; have hcz10_1 : w8.cell? ⟨gb127, 1, none⟩ = some (.slice none 0 0) := (yaa_ BK127.out 1).trans rfl; have hfz10_0 := yab_ BK127.out 0; have hfz10_1 := yab_ BK127.out 1; obtain ⟨Ao11, co11, eo11⟩ := Kd.V_slice HO125.out; subst eo11) | ((with_reducible refine yah_ (f := 38) rfl ?_); refine goesL_ (some 14) rfl rfl Try.func38 (by kernel_rfl) rfl #[.agg #[.int .i64 t122, .slice Ao11 t123.length co11]] rfl (by (try simp only [List.map_toArray, List.map_cons, List.map_nil]); first | done | rfl | (simp only [List.length_drop, List.length_take]; rfl)) ?_; (with_reducible refine (term_Clone.calls k t122 _ _ t123 t128 t129 _ ?side1 ?side2 A5.out).mono ?_); (case side1 => refine (Kd.V_reads' (e := 30) (base := w.heap.size) (ok := fun k_ => (k_ ≠ gb121 ∧ k_ ≠ gb127)) (n := t123.length) (c := co11) ?_).2.2; exact (by (with_reducible repeat (first | apply Kd.V_alloc | apply Kd.V_drewN | apply Kd.V_drew)); exact (Kd.V_mono (Kd.V_far (p := ⟨gb127, 1, none⟩) (Kd.V_far (p := ⟨gb127, 0, none⟩) (Kd.V_mono HO125.out (fun k_ hk => (⟨hk, hk.2⟩ : _ ∧ k_ ≠ gb127))) (fun _ hk => hk.2) (.int .i64 t122)) (fun _ hk => hk.2) (.slice Ao11 t123.length co11)) (fun _ h_ => h_.1)))); (case side2 => exact (Kd.V_reads' HO125.out).2.1); rintro e w12 ⟨v130, rfl, ho0, hb⟩; refine ⟨_, rfl, ?_⟩; have n0_ := Az_.mk (Kd.V_elder' (by (with_reducible repeat (first | apply Kd.V_alloc | apply Kd.V_drewN | apply Kd.V_drew)); exact (Kd.V_mono (Kd.V_far (p := ⟨gb127, 1, none⟩) (Kd.V_far (p := ⟨gb127, 0, none⟩) (Kd.V_mono HO125.out (fun k_ hk => (⟨hk, hk.2⟩ : _ ∧ k_ ≠ gb127))) (fun _ hk => hk.2) (.int .i64 t122)) (fun _ hk => hk.2) (.slice Ao11 t123.length co11)) (fun _ h_ => h_.1))) (Kd.R_base ho0) hb); have n1_ := Az_.mk (Kd.R_lower (Kd.R_newB (Kd.R_newB ho0 (g := gb121) (o := .cells #[.int .i64 0, .slice none 0 0] 30 (0, 0)) (by (with_reducible repeat (first | refine kN_ ?_ _ | refine kD_ ?_ | refine kA_ ?_ _)); refine blk_far ?_ NB121_127.out _; (with_reducible repeat (first | refine kN_ ?_ _ | refine kD_ ?_ | refine kA_ ?_ _)); refine blk_far ?_ NB121_127.out _; (with_reducible repeat (first | refine kN_ ?_ _ | refine kD_ ?_ | refine kA_ ?_ _)); exact BK121.out)) (g := gb127) (o := .cells #[.int .i64 t122, .slice Ao11 t123.length co11] 30 (0, 0)) (by (with_reducible repeat (first | refine kN_ ?_ _ | refine kD_ ?_ | refine kA_ ?_ _)); refine blk_put (cs := #[.int .i64 t122, .slice none 0 0]) ?_ 1 _ rfl; (with_reducible repeat (first | refine kN_ ?_ _ | refine kD_ ?_ | refine kA_ ?_ _)); refine blk_put (cs := #[.int .i64 0, .slice none 0 0]) ?_ 0 _ rfl; (with_reducible repeat (first | refine kN_ ?_ _ | refine kD_ ?_ | refine kA_ ?_ _)); exact BK127.out)) (bZ_ (by repeat (first | (with_reducible first | exact HB.out | apply bA_ | apply bN_ | apply bD_ | refine bS_ ?_ GE121.out | refine bS_ ?_ GE127.out) | exact HB.out)))); have n2_ := Az_.mk (kB_ (g := gb121) (o := .cells #[.int .i64 0, .slice none 0 0] 30 (0, 0)) (by (with_reducible repeat (first | refine kN_ ?_ _ | refine kD_ ?_ | refine kA_ ?_ _)); refine blk_far ?_ NB121_127.out _; (with_reducible repeat (first | refine kN_ ?_ _ | refine kD_ ?_ | refine kA_ ?_ _)); refine blk_far ?_ NB121_127.out _; (with_reducible repeat (first | refine kN_ ?_ _ | refine kD_ ?_ | refine kA_ ?_ _)); exact BK121.out) hb); have n3_ := Az_.mk (kB_ (g := gb127) (o := .cells #[.int .i64 t122, .slice Ao11 t123.length co11] 30 (0, 0)) (by (with_reducible repeat (first | refine kN_ ?_ _ | refine kD_ ?_ | refine kA_ ?_ _)); refine blk_put (cs := #[.int .i64 t122, .slice none 0 0]) ?_ 1 _ rfl; (with_reducible repeat (first | refine kN_ ?_ _ | refine kD_ ?_ | refine kA_ ?_ _)); refine blk_put (cs := #[.int .i64 0, .slice none 0 0]) ?_ 0 _ rfl; (with_reducible repeat (first | refine kN_ ?_ _ | refine kD_ ?_ | refine kA_ ?_ _)); exact BK127.out) hb); have n4_ := Az_.mk (bT_ (by repeat (first | (with_reducible first | exact HB.out | apply bA_ | apply bN_ | apply bD_ | refine bS_ ?_ GE121.out | refine bS_ ?_ GE127.out) | exact HB.out)) hb); clear HO125; clear BK121; clear BK127; clear HB; have HO125 := n0_; have HO131 := n1_; have BK121 := n2_; have BK127 := n3_; have HB := n4_; clear n0_ n1_ n2_ n3_ n4_; (try clear hb); (try clear hb2); (try clear hk); (try clear hi); (try clear ho0); have hcz13_0 : w12.cell? ⟨gb121, 0, none⟩ = some (.int .i64 0) := (yaa_ BK121.out 0).trans rfl; have hcz13_1 : w12.cell? ⟨gb121, 1, none⟩ = some (.slice none 0 0) := (yaa_ BK121.out 1).trans rfl; have hfz13_0 := yab_ BK121.out 0; have hfz13_1 := yab_ BK121.out 1; obtain ⟨Ao14, co14, eo14⟩ := Kd.R_slice HO131.out; subst eo14))
  refine bodyPost_ret (results_cell_row rfl _ _ gb121 30 #[.int .i64 t128, .slice Ao14 t129.length co14] (0, 0) _ rfl (by (with_reducible repeat (first | refine kN_ ?_ _ | refine kD_ ?_ | refine kA_ ?_ _)); refine blk_put (cs := #[.int .i64 t128, .slice none 0 0]) ?_ 1 _ rfl; (with_reducible repeat (first | refine kN_ ?_ _ | refine kD_ ?_ | refine kA_ ?_ _)); refine blk_put (cs := #[.int .i64 0, .slice none 0 0]) ?_ 0 _ rfl; (with_reducible repeat (first | refine kN_ ?_ _ | refine kD_ ?_ | refine kA_ ?_ _)); exact BK121.out) Try.underlying30 rfl (by kernel_rfl)) rfl ?_
  exact ⟨_, by first | rfl | (simp [yae_, yad_] <;> rfl) | (simp [*, yae_, yad_] <;> rfl), by (with_reducible repeat (first | apply Kd.R_alloc | apply Kd.R_drewN | apply Kd.R_drew)); exact Kd.R_mono (Kd.R_far (p := ⟨gb121, 1, none⟩) (Kd.R_far (p := ⟨gb121, 0, none⟩) (Kd.R_mono HO131.out (fun k_ hk => (⟨hk, hk.1.2⟩ : _ ∧ k_ ≠ gb121))) (fun _ hk => hk.2) (.int .i64 t128)) (fun _ hk => hk.2) (.slice Ao14 t129.length co14)) (fun _ hk => trivial), by repeat (first | (with_reducible first | exact HB.out | apply bA_ | apply bN_ | apply bD_ | refine bS_ ?_ GE121.out | refine bS_ ?_ GE127.out) | exact HB.out)⟩
 ·replace c4 := Bool.eq_false_iff.mpr c4
  subst c4
  have H1 : ((substVar.f a0).bind fun bt132 => (some (bt132.1, bt132.2))) = some (r1, r2) := by rw [if_neg (show ¬ (false = true) by decide)] at H; exact H
  clear H
  have H := H1
  clear H1
  replace H := Option.bind_eq_some_iff.mp H
  obtain ⟨⟨t132, t133⟩, A150, H⟩ := H
  replace H : (some (t132, t133)) = some (r1, r2) := H
  have A15 := Az_.mk A150
  clear A150
  simp only [Option.some.injEq, Prod.mk.injEq] at H
  obtain ⟨rfl, rfl⟩ := H
  go_enter Try.func84, Try.ntmps84
  go_wp2_with (first | ((with_reducible refine yaj_ (N := 3) rfl ?_); refine yai_ ?hg (N := 3) ?hd (cs := #[.int .i64 0, .slice none 0 0]) (t := 30) ?hr ?_; (case hd => rfl); (case hg => rfl); (case hr => first | (go_simp; done) | (go_simp; rfl)); intro gb121 hg w16 hbox hb; have n0_ := Az_.mk (bT_ (by repeat (first | (with_reducible first | exact HB.out | apply bA_ | apply bN_ | apply bD_) | exact HB.out)) hb); have n1_ := Az_.mk (hbox); have n2_ := Az_.mk ((by rw [hg]; exact (bZ_ (by repeat (first | (with_reducible first | exact HB.out | apply bA_ | apply bN_ | apply bD_) | exact HB.out))) : w.heap.size ≤ gb121)); have n3_ := Az_.mk ((by rw [hg]; exact (bZ_ (by repeat (first | (with_reducible first | exact HB.out | apply bA_ | apply bN_ | apply bD_) | exact HB.out))) : w.heap.size ≤ gb121)); clear HB; have HB := n0_; have BK121 := n1_; have GW121 := n2_; have GE121 := n3_; clear n0_ n1_ n2_ n3_; clear hb hbox hg; have hqc : w16.cell? ⟨gq, 0, none⟩ = some (.slice A1 l1.length c1) := (yaa_ (HQ.out _ HB.out) 0).trans rfl) | ((with_reducible refine yah_ (f := 85) rfl ?_); refine goesL_ (some 9) rfl rfl Try.func85 (by kernel_rfl) rfl #[.slice A1 l1.length c1, .int .i64 a0] rfl (by (try simp only [List.map_toArray, List.map_cons, List.map_nil]); first | done | rfl | (simp only [List.length_drop, List.length_take]; rfl)) ?_; (with_reducible refine (subst_S_Get.calls k (fun k_ => k_ < w.heap.size) _ _ l1 a0 t122 t123 false _ ?side1 A3.out).mono ?_); (case side1 => exact Kd.V_mk HC1.out (Kd.F_below (Kd.C_F k114_heap HR1.out) (by repeat (first | (with_reducible first | exact HB.out | apply bA_ | apply bN_ | apply bD_ | refine bS_ ?_ GE121.out) | exact HB.out)))); rintro e w17 ⟨v124, rfl, ho0, hb⟩; refine ⟨_, rfl, ?_⟩; have n0_ := Az_.mk (Kd.V_lower (Kd.V_mono (ok' := fun k_ => k_ ≠ gb121) ho0 (fun k_ hk_ => Or.elim hk_ (fun hs_ => fun e_ => Nat.not_le.2 hs_ (by rw [e_]; exact GW121.out)) (fun hn_ => (Kd.freshB (g := gb121) (o := .cells #[.int .i64 0, .slice none 0 0] 30 (0, 0)) (by (with_reducible repeat (first | refine kN_ ?_ _ | refine kD_ ?_ | refine kA_ ?_ _)); exact BK121.out) k_ hn_)))) (bZ_ (by repeat (first | (with_reducible first | exact HB.out | apply bA_ | apply bN_ | apply bD_ | refine bS_ ?_ GE121.out) | exact HB.out)))); have n1_ := Az_.mk (kB_ (g := gb121) (o := .cells #[.int .i64 0, .slice none 0 0] 30 (0, 0)) (by (with_reducible repeat (first | refine kN_ ?_ _ | refine kD_ ?_ | refine kA_ ?_ _)); exact BK121.out) hb); have n2_ := Az_.mk (bT_ (by repeat (first | (with_reducible first | exact HB.out | apply bA_ | apply bN_ | apply bD_ | refine bS_ ?_ GE121.out) | exact HB.out)) hb); clear BK121; clear HB; have HO125 := n0_; have BK121 := n1_; have HB := n2_; clear n0_ n1_ n2_; (try clear hb); (try clear hb2); (try clear hk); (try clear hi); (try clear ho0)) | ((with_reducible refine yaj_ (N := 4) rfl ?_); refine yai_ ?hg (N := 4) ?hd (cs := #[.int .i64 0, .slice none 0 0]) (t := 30) ?hr ?_; (case hd => rfl); (case hg => rfl); (case hr => first | (go_simp; done) | (go_simp; rfl)); intro gb127 hg w18 hbox hb; have n0_ := Az_.mk (Kd.V_below (Kd.V_elderB (by (with_reducible repeat (first | apply Kd.V_alloc | apply Kd.V_drewN | apply Kd.V_drew)); exact HO125.out) gb127 (Nat.le_of_eq hg.symm)) hb); have n1_ := Az_.mk (kB_ (g := gb121) (o := .cells #[.int .i64 0, .slice none 0 0] 30 (0, 0)) (by (with_reducible repeat (first | refine kN_ ?_ _ | refine kD_ ?_ | refine kA_ ?_ _)); exact BK121.out) hb); have n2_ := Az_.mk (bT_ (by repeat (first | (with_reducible first | exact HB.out | apply bA_ | apply bN_ | apply bD_ | refine bS_ ?_ GE121.out) | exact HB.out)) hb); have n3_ := Az_.mk (hbox); have n4_ := Az_.mk ((by rw [hg]; exact (bZ_ (by repeat (first | (with_reducible first | exact HB.out | apply bA_ | apply bN_ | apply bD_ | refine bS_ ?_ GE121.out) | exact HB.out))) : w.heap.size ≤ gb127)); have n5_ := Az_.mk ((by rw [hg]; exact (bZ_ (by repeat (first | (with_reducible first | exact HB.out | apply bA_ | apply bN_ | apply bD_ | refine bS_ ?_ GE121.out) | exact HB.out))) : w.heap.size ≤ gb127)); have n6_ := Az_.mk ((by rw [hg]; exact Nat.ne_of_lt (blk_lt (g := gb121) (o := .cells #[.int .i64 0, .slice none 0 0] 30 (0, 0)) (by (with_reducible repeat (first | refine kN_ ?_ _ | refine kD_ ?_ | refine kA_ ?_ _)); exact BK121.out)) : gb121 ≠ gb127)); have n7_ := Az_.mk ((by rw [hg]; exact Nat.ne_of_gt (blk_lt (g := gb121) (o := .cells #[.int .i64 0, .slice none 0 0] 30 (0, 0)) (by (with_reducible repeat (first | refine kN_ ?_ _ | refine kD_ ?_ | refine kA_ ?_ _)); exact BK121.out)) : gb127 ≠ gb121)); clear HO125; clear BK121; clear HB; have HO125 := n0_; have BK121 := n1_; have HB := n2_; have BK127 := n3_; have GW127 := n4_; have GE127 := n5_; have NB121_127 := n6_; have NB127_121 := n7_; clear n0_ n1_ n2_ n3_ n4_ n5_ n6_ n7_; clear hb hbox hg; have hnb19 := NB127_121.out; have hnc19 := NB121_127.out; have hcz20_0 : w18.cell? ⟨gb127, 0, none⟩ = some (.int .i64 0) := (yaa_ BK127.out 0).trans rfl; have hcz20_1 : w18.cell? ⟨gb127, 1, none⟩ = some (.slice none 0 0) := (yaa_ BK127.out 1).trans rfl; have hfz20_0 := yab_ BK127.out 0; have hfz20_1 := yab_ BK127.out 1; obtain ⟨Ao21, co21, eo21⟩ := Kd.V_slice HO125.out; subst eo21) | ((with_reducible refine yah_ (f := 83) rfl ?_); refine goesL_ (some 16) rfl rfl Try.func83 (by kernel_rfl) rfl #[.int .i64 a0] rfl (by (try simp only [List.map_toArray, List.map_cons, List.map_nil]); first | done | rfl | (simp only [List.length_drop, List.length_take]; rfl)) ?_; (with_reducible refine (substVar.calls a0 t132 t133 _ A15.out).mono ?_); rintro e w22 ⟨v134, rfl, ho0, hb⟩; refine ⟨_, rfl, ?_⟩; have n0_ := Az_.mk (Kd.V_elder' (by (with_reducible repeat (first | apply Kd.V_alloc | apply Kd.V_drewN | apply Kd.V_drew)); exact (Kd.V_mono (Kd.V_far (p := ⟨gb127, 1, none⟩) (Kd.V_far (p := ⟨gb127, 0, none⟩) (Kd.V_mono HO125.out (fun k_ hk => (⟨hk, hk.2⟩ : _ ∧ k_ ≠ gb127))) (fun _ hk => hk.2) (.int .i64 t122)) (fun _ hk => hk.2) (.slice Ao21 t123.length co21)) (fun _ h_ => h_.1))) (Kd.R_base ho0) hb); have n1_ := Az_.mk (Kd.R_lower (Kd.R_newB (Kd.R_newB ho0 (g := gb121) (o := .cells #[.int .i64 0, .slice none 0 0] 30 (0, 0)) (by (with_reducible repeat (first | refine kN_ ?_ _ | refine kD_ ?_ | refine kA_ ?_ _)); refine blk_far ?_ NB121_127.out _; (with_reducible repeat (first | refine kN_ ?_ _ | refine kD_ ?_ | refine kA_ ?_ _)); refine blk_far ?_ NB121_127.out _; (with_reducible repeat (first | refine kN_ ?_ _ | refine kD_ ?_ | refine kA_ ?_ _)); exact BK121.out)) (g := gb127) (o := .cells #[.int .i64 t122, .slice Ao21 t123.length co21] 30 (0, 0)) (by (with_reducible repeat (first | refine kN_ ?_ _ | refine kD_ ?_ | refine kA_ ?_ _)); refine blk_put (cs := #[.int .i64 t122, .slice none 0 0]) ?_ 1 _ rfl; (with_reducible repeat (first | refine kN_ ?_ _ | refine kD_ ?_ | refine kA_ ?_ _)); refine blk_put (cs := #[.int .i64 0, .slice none 0 0]) ?_ 0 _ rfl; (with_reducible repeat (first | refine kN_ ?_ _ | refine kD_ ?_ | refine kA_ ?_ _)); exact BK127.out)) (bZ_ (by repeat (first | (with_reducible first | exact HB.out | apply bA_ | apply bN_ | apply bD_ | refine bS_ ?_ GE121.out | refine bS_ ?_ GE127.out) | exact HB.out)))); have n2_ := Az_.mk (kB_ (g := gb121) (o := .cells #[.int .i64 0, .slice none 0 0] 30 (0, 0)) (by (with_reducible repeat (first | refine kN_ ?_ _ | refine kD_ ?_ | refine kA_ ?_ _)); refine blk_far ?_ NB121_127.out _; (with_reducible repeat (first | refine kN_ ?_ _ | refine kD_ ?_ | refine kA_ ?_ _)); refine blk_far ?_ NB121_127.out _; (with_reducible repeat (first | refine kN_ ?_ _ | refine kD_ ?_ | refine kA_ ?_ _)); exact BK121.out) hb); have n3_ := Az_.mk (kB_ (g := gb127) (o := .cells #[.int .i64 t122, .slice Ao21 t123.length co21] 30 (0, 0)) (by (with_reducible repeat (first | refine kN_ ?_ _ | refine kD_ ?_ | refine kA_ ?_ _)); refine blk_put (cs := #[.int .i64 t122, .slice none 0 0]) ?_ 1 _ rfl; (with_reducible repeat (first | refine kN_ ?_ _ | refine kD_ ?_ | refine kA_ ?_ _)); refine blk_put (cs := #[.int .i64 0, .slice none 0 0]) ?_ 0 _ rfl; (with_reducible repeat (first | refine kN_ ?_ _ | refine kD_ ?_ | refine kA_ ?_ _)); exact BK127.out) hb); have n4_ := Az_.mk (bT_ (by repeat (first | (with_reducible first | exact HB.out | apply bA_ | apply bN_ | apply bD_ | refine bS_ ?_ GE121.out | refine bS_ ?_ GE127.out) | exact HB.out)) hb); clear HO125; clear BK121; clear BK127; clear HB; have HO125 := n0_; have HO135 := n1_; have BK121 := n2_; have BK127 := n3_; have HB := n4_; clear n0_ n1_ n2_ n3_ n4_; (try clear hb); (try clear hb2); (try clear hk); (try clear hi); (try clear ho0); have hcz23_0 : w22.cell? ⟨gb121, 0, none⟩ = some (.int .i64 0) := (yaa_ BK121.out 0).trans rfl; have hcz23_1 : w22.cell? ⟨gb121, 1, none⟩ = some (.slice none 0 0) := (yaa_ BK121.out 1).trans rfl; have hfz23_0 := yab_ BK121.out 0; have hfz23_1 := yab_ BK121.out 1; obtain ⟨Ao24, co24, eo24⟩ := Kd.R_slice HO135.out; subst eo24))
  refine bodyPost_ret (results_cell_row rfl _ _ gb121 30 #[.int .i64 t132, .slice Ao24 t133.length co24] (0, 0) _ rfl (by (with_reducible repeat (first | refine kN_ ?_ _ | refine kD_ ?_ | refine kA_ ?_ _)); refine blk_put (cs := #[.int .i64 t132, .slice none 0 0]) ?_ 1 _ rfl; (with_reducible repeat (first | refine kN_ ?_ _ | refine kD_ ?_ | refine kA_ ?_ _)); refine blk_put (cs := #[.int .i64 0, .slice none 0 0]) ?_ 0 _ rfl; (with_reducible repeat (first | refine kN_ ?_ _ | refine kD_ ?_ | refine kA_ ?_ _)); exact BK121.out) Try.underlying30 rfl (by kernel_rfl)) rfl ?_
  exact ⟨_, by first | rfl | (simp [yae_, yad_] <;> rfl) | (simp [*, yae_, yad_] <;> rfl), by (with_reducible repeat (first | apply Kd.R_alloc | apply Kd.R_drewN | apply Kd.R_drew)); exact Kd.R_mono (Kd.R_far (p := ⟨gb121, 1, none⟩) (Kd.R_far (p := ⟨gb121, 0, none⟩) (Kd.R_mono HO135.out (fun k_ hk => (⟨hk, hk.1.2⟩ : _ ∧ k_ ≠ gb121))) (fun _ hk => hk.2) (.int .i64 t132)) (fun _ hk => hk.2) (.slice Ao24 t133.length co24)) (fun _ hk => trivial), by repeat (first | (with_reducible first | exact HB.out | apply bA_ | apply bN_ | apply bD_ | refine bS_ ?_ GE121.out | refine bS_ ?_ GE127.out) | exact HB.out)⟩
end
section
attribute [local go_sem] yaq_ yao_ max_two min_two yal_ yak_ yap_ yan_
mutual
def subst_mappedA.l0 : Nat → List (S114) → List (S30) → Int → Int → Int → List (S30) → Option (Int × (List (S30)))
 | 0, _, _, _, _, _, _ => none
 | k + 1, x1, x20, x21, x22, x143000, x143001 => if x22 < x21 then (if 0 ≤ x22 then (if x22 < (x20.length : Int) then ((subst_mappedA.f k ((rd_T30 x20 x22).f0) ((rd_T30 x20 x22).f1) x1).bind fun bt145 => (if x143001.length < 4398046511104 then (subst_mappedA.l0 k x1 x20 x21 (wrap64 (x22 + 1)) x143000 (x143001 ++ [(⟨bt145.1, bt145.2⟩ : S30)])) else (none))) else (none)) else (none)) else (some (x143000, x143001))
def subst_mappedA.f : Nat → Int → List (S30) → List (S114) → Option (Int × (List (S30)))
 | 0, _, _, _ => none
 | k + 1, a0_0, l0_1, l1 => if a0_0 < 0 then ((subst_S_Apply_1.f k (wrap64 ((-1) - a0_0)) l1).bind fun bt138 => (some (bt138.1, bt138.2))) else (subst_mappedA.l0 k l1 l0_1 (l0_1.length : Int) 0 a0_0 ([] : List (S30)))
end
def subst_mappedA.T7 : Bool × List (List Nat × List Nat) := (true, [([], []), ([0], [0]), ([], []), ([], []), ([2, 3], [2, 3]), ([4], [4]), ([1, 5, 4], [1, 5]), ([0, 1, 2, 3, 4, 5, 6], []), ([7, 6, 6, 0, 1, 2, 3, 4, 5, 6], [6, 7])])
def subst_mappedA.B7 : List Nat := [0, 1, 0, 0, 12, 28, 63, 127, 255]
theorem subst_mappedA.tab7 : rtab .any (opsOf Try.f81 7) = subst_mappedA.T7 := by kernel_rfl
theorem subst_mappedA.bits7 : waitsOk subst_mappedA.T7.2 subst_mappedA.B7 = true := by kernel_rfl
set_option maxHeartbeats 8000000 in
set_option maxRecDepth 100000 in
theorem subst_mappedA.calls (gq : Nat) (k : Nat) : ∀ (a0_0 : Int) (A0_1 : Option Addr) (c0_1 : Nat) (l0_1 : List (S30)) (A1 : Option Addr) (c1 : Nat) (l1 : List (S114)) (r1 : Int) (r2 : List (S30)) (w : World) (hr0_1 : Kd.C k30 w A0_1 l0_1.length l0_1) (hc0_1 : l0_1.length ≤ c0_1) (hr1 : Kd.C k114 w A1 l1.length l1) (hc1 : l1.length ≤ c1) (hq : w.heap[gq]? = some (.cells #[.slice A1 l1.length c1] 62 (0, 0))) (h : subst_mappedA.f k a0_0 l0_1 l1 = some (r1, r2)),
  Calls Try.prog 81 #[.agg #[.int .i64 a0_0, .slice A0_1 l0_1.length c0_1], (.func (.func 84) #[] #[.pointer (some ⟨gq, 0, none⟩)])] w fun e w' => ∃ v1_ : Value, e = .returned (.agg #[.int .i64 r1, v1_]) ∧ Kd.R k30 30 w' w.heap.size (fun _ => True) v1_ r2 ∧ Below w.heap.size w w' := by
 induction k using Nat.strongRecOn with
 | _ k ih =>
 intro a0_0 A0_1 c0_1 l0_1 A1 c1 l1 r1 r2 w hr0_1 hc0_1 hr1 hc1 hq h
 have HQ : Az_ (∀ w1, Below w.heap.size w w1 → w1.heap[gq]? = some (.cells #[.slice A1 l1.length c1] 62 (0, 0))) := ⟨fun w1 hb => kB_ hq hb⟩
 clear hq
 cases k with
 | zero => exact absurd h (by simp [subst_mappedA.f])
 | succ k =>
 simp only [subst_mappedA.f] at h
 have hu30 := Try.underlying30
 have HR0_1 := Az_.mk hr0_1
 have HC0_1 := Az_.mk hc0_1
 clear hr0_1 hc0_1
 have HR1 := Az_.mk hr1
 have HC1 := Az_.mk hc1
 clear hr1 hc1
 have HB := Az_.mk (Below.refl w.heap.size w)
 have H : (if a0_0 < 0 then ((subst_S_Apply_1.f k (wrap64 ((-1) - a0_0)) l1).bind fun bt138 => (some (bt138.1, bt138.2))) else (subst_mappedA.l0 k l1 l0_1 (l0_1.length : Int) 0 a0_0 ([] : List (S30)))) = some (r1, r2) := h
 clear h
 by_cases c3 : a0_0 < 0
 ·rw [if_pos c3] at H
  have c3b0 : decide (a0_0 < 0) = true := decide_eq_true c3
  clear c3
  replace H := Option.bind_eq_some_iff.mp H
  obtain ⟨⟨t138, t139⟩, A40, H⟩ := H
  replace H : (some (t138, t139)) = some (r1, r2) := H
  have A4 := Az_.mk A40
  clear A40
  simp only [Option.some.injEq, Prod.mk.injEq] at H
  obtain ⟨rfl, rfl⟩ := H
  go_enter Try.func81, Try.ntmps81
  go_wp2_with (first | ((with_reducible refine yaj_ (N := 2) rfl ?_); refine yai_ ?hg (N := 2) ?hd (cs := #[.int .i64 a0_0, .slice A0_1 l0_1.length c0_1]) (t := 30) ?hr ?_; (case hd => rfl); (case hg => rfl); (case hr => first | (go_simp; done) | (go_simp; rfl)); intro gb136 hg w5 hbox hb; have n0_ := Az_.mk (bT_ (by repeat (first | (with_reducible first | exact HB.out | apply bA_ | apply bN_ | apply bD_) | exact HB.out)) hb); have n1_ := Az_.mk (hbox); have n2_ := Az_.mk ((by rw [hg]; exact (bZ_ (by repeat (first | (with_reducible first | exact HB.out | apply bA_ | apply bN_ | apply bD_) | exact HB.out))) : w.heap.size ≤ gb136)); have n3_ := Az_.mk ((by rw [hg]; exact (bZ_ (by repeat (first | (with_reducible first | exact HB.out | apply bA_ | apply bN_ | apply bD_) | exact HB.out))) : w.heap.size ≤ gb136)); clear HB; have HB := n0_; have BK136 := n1_; have GW136 := n2_; have GE136 := n3_; clear n0_ n1_ n2_ n3_; clear hb hbox hg) | ((with_reducible refine yaj_ (N := 4) rfl ?_); refine yai_ ?hg (N := 4) ?hd (cs := #[.int .i64 0, .slice none 0 0]) (t := 30) ?hr ?_; (case hd => rfl); (case hg => rfl); (case hr => first | (go_simp; done) | (go_simp; rfl)); intro gb137 hg w6 hbox hb; have n0_ := Az_.mk (kB_ (g := gb136) (o := .cells #[.int .i64 a0_0, .slice A0_1 l0_1.length c0_1] 30 (0, 0)) (by (with_reducible repeat (first | refine kN_ ?_ _ | refine kD_ ?_ | refine kA_ ?_ _)); exact BK136.out) hb); have n1_ := Az_.mk (bT_ (by repeat (first | (with_reducible first | exact HB.out | apply bA_ | apply bN_ | apply bD_ | refine bS_ ?_ GE136.out) | exact HB.out)) hb); have n2_ := Az_.mk (hbox); have n3_ := Az_.mk ((by rw [hg]; exact (bZ_ (by repeat (first | (with_reducible first | exact HB.out | apply bA_ | apply bN_ | apply bD_ | refine bS_ ?_ GE136.out) | exact HB.out))) : w.heap.size ≤ gb137)); have n4_ := Az_.mk ((by rw [hg]; exact (bZ_ (by repeat (first | (with_reducible first | exact HB.out | apply bA_ | apply bN_ | apply bD_ | refine bS_ ?_ GE136.out) | exact HB.out))) : w.heap.size ≤ gb137)); have n5_ := Az_.mk ((by rw [hg]; exact Nat.ne_of_lt (blk_lt (g := gb136) (o := .cells #[.int .i64 a0_0, .slice A0_1 l0_1.length c0_1] 30 (0, 0)) (by (with_reducible repeat (first | refine kN_ ?_ _ | refine kD_ ?_ | refine kA_ ?_ _)); exact BK136.out)) : gb136 ≠ gb137)); have n6_ := Az_.mk ((by rw [hg]; exact Nat.ne_of_gt (blk_lt (g := gb136) (o := .cells #[.int .i64 a0_0, .slice A0_1 l0_1.length c0_1] 30 (0, 0)) (by (with_reducible repeat (first | refine kN_ ?_ _ | refine kD_ ?_ | refine kA_ ?_ _)); exact BK136.out)) : gb137 ≠ gb136)); clear BK136; clear HB; have BK136 := n0_; have HB := n1_; have BK137 := n2_; have GW137 := n3_; have GE137 := n4_; have NB136_137 := n5_; have NB137_136 := n6_; clear n0_ n1_ n2_ n3_ n4_ n5_ n6_; clear hb hbox hg; have hnb7 := NB136_137.out; have hnc7 := NB137_136.out; have hcz8_0 : w6.cell? ⟨gb136, 0, none⟩ = some (.int .i64 a0_0) := (yaa_ BK136.out 0).trans rfl; have hcz8_1 : w6.cell? ⟨gb136, 1, none⟩ = some (.slice A0_1 l0_1.length c0_1) := (yaa_ BK136.out 1).trans rfl; have hfz8_0 := yab_ BK136.out 0; have hfz8_1 := yab_ BK136.out 1) | (go_at_call 84; (refine (subst_S_Apply_1.calls gq k (wrap64 ((-1) - a0_0)) _ _ l1 t138 t139 _ ?side1 ?side2 (HQ.out _ (by repeat (first | (with_reducible first | exact HB.out | apply bA_ | apply bN_ | apply bD_) | exact HB.out))) A4.out).mono ?_); (case side1 => repeat (first | exact (Kd.C_below HR1.out HB.out) | (with_reducible refine Kd.C_alloc ?_ _) | (with_reducible refine Kd.C_drewN ?_ _) | (with_reducible refine Kd.C_drew ?_))); (case side2 => exact HC1.out); rintro e w9 ⟨v140, rfl, ho0, hb⟩; have n0_ := Az_.mk (Kd.R_lower (Kd.R_newB (Kd.R_newB ho0 (g := gb136) (o := .cells #[.int .i64 a0_0, .slice A0_1 l0_1.length c0_1] 30 (0, 0)) (by (with_reducible repeat (first | refine kN_ ?_ _ | refine kD_ ?_ | refine kA_ ?_ _)); exact BK136.out)) (g := gb137) (o := .cells #[.int .i64 0, .slice none 0 0] 30 (0, 0)) (by (with_reducible repeat (first | refine kN_ ?_ _ | refine kD_ ?_ | refine kA_ ?_ _)); exact BK137.out)) (bZ_ (by repeat (first | (with_reducible first | exact HB.out | apply bA_ | apply bN_ | apply bD_ | refine bS_ ?_ GE136.out | refine bS_ ?_ GE137.out) | exact HB.out)))); have n1_ := Az_.mk (kB_ (g := gb136) (o := .cells #[.int .i64 a0_0, .slice A0_1 l0_1.length c0_1] 30 (0, 0)) (by (with_reducible repeat (first | refine kN_ ?_ _ | refine kD_ ?_ | refine kA_ ?_ _)); exact BK136.out) hb); have n2_ := Az_.mk (kB_ (g := gb137) (o := .cells #[.int .i64 0, .slice none 0 0] 30 (0, 0)) (by (with_reducible repeat (first | refine kN_ ?_ _ | refine kD_ ?_ | refine kA_ ?_ _)); exact BK137.out) hb); have n3_ := Az_.mk (bT_ (by repeat (first | (with_reducible first | exact HB.out | apply bA_ | apply bN_ | apply bD_ | refine bS_ ?_ GE136.out | refine bS_ ?_ GE137.out) | exact HB.out)) hb); clear BK136; clear BK137; clear HB; have HO141 := n0_; have BK136 := n1_; have BK137 := n2_; have HB := n3_; clear n0_ n1_ n2_ n3_; (try clear hb); (try clear hb2); (try clear hk); (try clear hi); (try clear ho0); have hcz10_0 : w9.cell? ⟨gb137, 0, none⟩ = some (.int .i64 0) := (yaa_ BK137.out 0).trans rfl; have hcz10_1 : w9.cell? ⟨gb137, 1, none⟩ = some (.slice none 0 0) := (yaa_ BK137.out 1).trans rfl; have hfz10_0 := yab_ BK137.out 0; have hfz10_1 := yab_ BK137.out 1; obtain ⟨Ao11, co11, eo11⟩ := Kd.R_slice HO141.out; subst eo11))
  refine bodyPost_ret (results_cell_row rfl _ _ gb137 30 #[.int .i64 t138, .slice Ao11 t139.length co11] (0, 0) _ rfl (by (with_reducible repeat (first | refine kN_ ?_ _ | refine kD_ ?_ | refine kA_ ?_ _)); refine blk_put (cs := #[.int .i64 t138, .slice none 0 0]) ?_ 1 _ rfl; (with_reducible repeat (first | refine kN_ ?_ _ | refine kD_ ?_ | refine kA_ ?_ _)); refine blk_put (cs := #[.int .i64 0, .slice none 0 0]) ?_ 0 _ rfl; (with_reducible repeat (first | refine kN_ ?_ _ | refine kD_ ?_ | refine kA_ ?_ _)); exact BK137.out) Try.underlying30 rfl (by kernel_rfl)) rfl ?_
  exact ⟨_, by first | rfl | (simp [yae_, yad_] <;> rfl) | (simp [*, yae_, yad_] <;> rfl), by (with_reducible repeat (first | apply Kd.R_alloc | apply Kd.R_drewN | apply Kd.R_drew)); exact Kd.R_mono (Kd.R_far (p := ⟨gb137, 1, none⟩) (Kd.R_far (p := ⟨gb137, 0, none⟩) (Kd.R_mono HO141.out (fun k_ hk => (⟨hk, hk.2⟩ : _ ∧ k_ ≠ gb137))) (fun _ hk => hk.2) (.int .i64 t138)) (fun _ hk => hk.2) (.slice Ao11 t139.length co11)) (fun _ hk => trivial), by repeat (first | (with_reducible first | exact HB.out | apply bA_ | apply bN_ | apply bD_ | refine bS_ ?_ GE136.out | refine bS_ ?_ GE137.out) | exact HB.out)⟩
 ·rw [if_neg c3] at H
  have c3b0 : decide (a0_0 < 0) = false := decide_eq_false c3
  clear c3
  have H' := Az_.mk H
  clear H
  go_enter Try.func81, Try.ntmps81
  go_wp2_with (first | ((with_reducible refine yaj_ (N := 2) rfl ?_); refine yai_ ?hg (N := 2) ?hd (cs := #[.int .i64 a0_0, .slice A0_1 l0_1.length c0_1]) (t := 30) ?hr ?_; (case hd => rfl); (case hg => rfl); (case hr => first | (go_simp; done) | (go_simp; rfl)); intro gb136 hg w12 hbox hb; have n0_ := Az_.mk (bT_ (by repeat (first | (with_reducible first | exact HB.out | apply bA_ | apply bN_ | apply bD_) | exact HB.out)) hb); have n1_ := Az_.mk (hbox); have n2_ := Az_.mk ((by rw [hg]; exact (bZ_ (by repeat (first | (with_reducible first | exact HB.out | apply bA_ | apply bN_ | apply bD_) | exact HB.out))) : w.heap.size ≤ gb136)); have n3_ := Az_.mk ((by rw [hg]; exact (bZ_ (by repeat (first | (with_reducible first | exact HB.out | apply bA_ | apply bN_ | apply bD_) | exact HB.out))) : w.heap.size ≤ gb136)); clear HB; have HB := n0_; have BK136 := n1_; have GW136 := n2_; have GE136 := n3_; clear n0_ n1_ n2_ n3_; clear hb hbox hg) | ((with_reducible refine yaj_ (N := 4) rfl ?_); refine yai_ ?hg (N := 4) ?hd (cs := #[.int .i64 0, .slice none 0 0]) (t := 30) ?hr ?_; (case hd => rfl); (case hg => rfl); (case hr => first | (go_simp; done) | (go_simp; rfl)); intro gb137 hg w13 hbox hb; have n0_ := Az_.mk (kB_ (g := gb136) (o := .cells #[.int .i64 a0_0, .slice A0_1 l0_1.length c0_1] 30 (0, 0)) (by (with_reducible repeat (first | refine kN_ ?_ _ | refine kD_ ?_ | refine kA_ ?_ _)); exact BK136.out) hb); have n1_ := Az_.mk (bT_ (by repeat (first | (with_reducible first | exact HB.out | apply bA_ | apply bN_ | apply bD_ | refine bS_ ?_ GE136.out) | exact HB.out)) hb); have n2_ := Az_.mk (hbox); have n3_ := Az_.mk ((by rw [hg]; exact (bZ_ (by repeat (first | (with_reducible first | exact HB.out | apply bA_ | apply bN_ | apply bD_ | refine bS_ ?_ GE136.out) | exact HB.out))) : w.heap.size ≤ gb137)); have n4_ := Az_.mk ((by rw [hg]; exact (bZ_ (by repeat (first | (with_reducible first | exact HB.out | apply bA_ | apply bN_ | apply bD_ | refine bS_ ?_ GE136.out) | exact HB.out))) : w.heap.size ≤ gb137)); have n5_ := Az_.mk ((by rw [hg]; exact Nat.ne_of_lt (blk_lt (g := gb136) (o := .cells #[.int .i64 a0_0, .slice A0_1 l0_1.length c0_1] 30 (0, 0)) (by (with_reducible repeat (first | refine kN_ ?_ _ | refine kD_ ?_ | refine kA_ ?_ _)); exact BK136.out)) : gb136 ≠ gb137)); have n6_ := Az_.mk ((by rw [hg]; exact Nat.ne_of_gt (blk_lt (g := gb136) (o := .cells #[.int .i64 a0_0, .slice A0_1 l0_1.length c0_1] 30 (0, 0)) (by (with_reducible repeat (first | refine kN_ ?_ _ | refine kD_ ?_ | refine kA_ ?_ _)); exact BK136.out)) : gb137 ≠ gb136)); clear BK136; clear HB; have BK136 := n0_; have HB := n1_; have BK137 := n2_; have GW137 := n3_; have GE137 := n4_; have NB136_137 := n5_; have NB137_136 := n6_; clear n0_ n1_ n2_ n3_ n4_ n5_ n6_; clear hb hbox hg; have hnb14 := NB136_137.out; have hnc14 := NB137_136.out; have hcz15_0 : w13.cell? ⟨gb136, 0, none⟩ = some (.int .i64 a0_0) := (yaa_ BK136.out 0).trans rfl; have hcz15_1 : w13.cell? ⟨gb136, 1, none⟩ = some (.slice A0_1 l0_1.length c0_1) := (yaa_ BK136.out 1).trans rfl; have hfz15_0 := yab_ BK136.out 0; have hfz15_1 := yab_ BK136.out 1) | ((with_reducible refine yaj_ (N := 5) rfl ?_); refine yai_ ?hg (N := 5) ?hd (cs := #[.int .i64 0, .slice none 0 0]) (t := 30) ?hr ?_; (case hd => rfl); (case hg => rfl); (case hr => first | (go_simp; done) | (go_simp; rfl)); intro gb142 hg w16 hbox hb; have n0_ := Az_.mk (kB_ (g := gb136) (o := .cells #[.int .i64 a0_0, .slice A0_1 l0_1.length c0_1] 30 (0, 0)) (by (with_reducible repeat (first | refine kN_ ?_ _ | refine kD_ ?_ | refine kA_ ?_ _)); exact BK136.out) hb); have n1_ := Az_.mk (kB_ (g := gb137) (o := .cells #[.int .i64 0, .slice none 0 0] 30 (0, 0)) (by (with_reducible repeat (first | refine kN_ ?_ _ | refine kD_ ?_ | refine kA_ ?_ _)); exact BK137.out) hb); have n2_ := Az_.mk (bT_ (by repeat (first | (with_reducible first | exact HB.out | apply bA_ | apply bN_ | apply bD_ | refine bS_ ?_ GE136.out | refine bS_ ?_ GE137.out) | exact HB.out)) hb); have n3_ := Az_.mk (hbox); have n4_ := Az_.mk ((by rw [hg]; exact (bZ_ (by repeat (first | (with_reducible first | exact HB.out | apply bA_ | apply bN_ | apply bD_ | refine bS_ ?_ GE136.out | refine bS_ ?_ GE137.out) | exact HB.out))) : w.heap.size ≤ gb142)); have n5_ := Az_.mk ((by rw [hg]; exact (bZ_ (by repeat (first | (with_reducible first | exact HB.out | apply bA_ | apply bN_ | apply bD_ | refine bS_ ?_ GE136.out | refine bS_ ?_ GE137.out) | exact HB.out))) : w.heap.size ≤ gb142)); have n6_ := Az_.mk ((by rw [hg]; exact Nat.ne_of_lt (blk_lt (g := gb136) (o := .cells #[.int .i64 a0_0, .slice A0_1 l0_1.length c0_1] 30 (0, 0)) (by (with_reducible repeat (first | refine kN_ ?_ _ | refine kD_ ?_ | refine kA_ ?_ _)); exact BK136.out)) : gb136 ≠ gb142)); have n7_ := Az_.mk ((by rw [hg]; exact Nat.ne_of_gt (blk_lt (g := gb136) (o := .cells #[.int .i64 a0_0, .slice A0_1 l0_1.length c0_1] 30 (0, 0)) (by (with_reducible repeat (first | refine kN_ ?_ _ | refine kD_ ?_ | refine kA_ ?_ _)); exact BK136.out)) : gb142 ≠ gb136)); have n8_ := Az_.mk ((by rw [hg]; exact Nat.ne_of_lt (blk_lt (g := gb137) (o := .cells #[.int .i64 0, .slice none 0 0] 30 (0, 0)) (by (with_reducible repeat (first | refine kN_ ?_ _ | refine kD_ ?_ | refine kA_ ?_ _)); exact BK137.out)) : gb137 ≠ gb142)); have n9_ := Az_.mk ((by rw [hg]; exact Nat.ne_of_gt (blk_lt (g := gb137) (o := .cells #[.int .i64 0, .slice none 0 0] 30 (0, 0)) (by (with_reducible repeat (first | refine kN_ ?_ _ | refine kD_ ?_ | refine kA_ ?_ _)); exact BK137.out)) : gb142 ≠ gb137)); clear BK136; clear BK137; clear HB; have BK136 := n0_; have BK137 := n1_; have HB := n2_; have BK142 := n3_; have GW142 := n4_; have GE142 := n5_; have NB136_142 := n6_; have NB142_136 := n7_; have NB137_142 := n8_; have NB142_137 := n9_; clear n0_ n1_ n2_ n3_ n4_ n5_ n6_ n7_ n8_ n9_; clear hb hbox hg; have hnb17 := NB142_136.out; have hnc17 := NB136_142.out; have hnb18 := NB142_137.out; have hnc18 := NB137_142.out; have hcz19_0 : w16.cell? ⟨gb142, 0, none⟩ = some (.int .i64 0) := (yaa_ BK142.out 0).trans rfl; have hcz19_1 : w16.cell? ⟨gb142, 1, none⟩ = some (.slice none 0 0) := (yaa_ BK142.out 1).trans rfl; have hfz19_0 := yab_ BK142.out 0; have hfz19_1 := yab_ BK142.out 1; have hcz20_0 : w16.cell? ⟨gb136, 0, none⟩ = some (.int .i64 a0_0) := (yaa_ BK136.out 0).trans rfl; have hcz20_1 : w16.cell? ⟨gb136, 1, none⟩ = some (.slice A0_1 l0_1.length c0_1) := (yaa_ BK136.out 1).trans rfl; have hfz20_0 := yab_ BK136.out 0; have hfz20_1 := yab_ BK136.out 1))
  go_loopg [22] k (fun kq v22 w' => ∃ (x22_1 : Int) (x143001_1 : List (S30)) (u143001 : Value), v22 = .int .i64 x22_1 ∧ Az_ (subst_mappedA.l0 kq l1 l0_1 (l0_1.length : Int) x22_1 a0_0 x143001_1 = some (r1, r2)) ∧ Az_ (kq ≤ k) ∧ Az_ (Kd.R k30 30 w' w.heap.size (fun k_ => k_ ≠ gb136 ∧ k_ ≠ gb137 ∧ k_ ≠ gb142) u143001 x143001_1) ∧ Az_ (w'.heap[gb136]? = some (.cells #[.int .i64 a0_0, (.slice A0_1 l0_1.length c0_1)] 30 (0, 0))) ∧ Az_ (w'.heap[gb137]? = some (.cells #[.int .i64 0, (.slice none 0 0)] 30 (0, 0))) ∧ Az_ (w'.heap[gb142]? = some (.cells #[.int .i64 a0_0, u143001] 30 (0, 0))) ∧ Az_ (Below w.heap.size w w'))
  case atStart => exact ⟨(0), (([] : List (S30))), (.slice none 0 0), (by first | rfl | (simp; done) | (simp [*]; done)), H', ⟨Nat.le_refl _⟩, ⟨by first | exact Kd.R_nil _ _ _ _ _ | exact Kd.N_nil _ _ _ _ _ | exact Kd.V_nil _ _ _ _ _ | exact Kd.Q_nil _ _ _ _ _ | exact Kd.S_nil _ _ _ _ _⟩, ⟨by (with_reducible repeat (first | refine kN_ ?_ _ | refine kD_ ?_ | refine kA_ ?_ _)); refine blk_far ?_ NB136_142.out _; (with_reducible repeat (first | refine kN_ ?_ _ | refine kD_ ?_ | refine kA_ ?_ _)); refine blk_far ?_ NB136_142.out _; (with_reducible repeat (first | refine kN_ ?_ _ | refine kD_ ?_ | refine kA_ ?_ _)); exact BK136.out⟩, ⟨by (with_reducible repeat (first | refine kN_ ?_ _ | refine kD_ ?_ | refine kA_ ?_ _)); refine blk_far ?_ NB137_142.out _; (with_reducible repeat (first | refine kN_ ?_ _ | refine kD_ ?_ | refine kA_ ?_ _)); refine blk_far ?_ NB137_142.out _; (with_reducible repeat (first | refine kN_ ?_ _ | refine kD_ ?_ | refine kA_ ?_ _)); exact BK137.out⟩, ⟨by (with_reducible repeat (first | refine kN_ ?_ _ | refine kD_ ?_ | refine kA_ ?_ _)); refine blk_put (cs := #[.int .i64 a0_0, .slice none 0 0]) ?_ 1 _ rfl; (with_reducible repeat (first | refine kN_ ?_ _ | refine kD_ ?_ | refine kA_ ?_ _)); refine blk_put (cs := #[.int .i64 0, .slice none 0 0]) ?_ 0 _ rfl; (with_reducible repeat (first | refine kN_ ?_ _ | refine kD_ ?_ | refine kA_ ?_ _)); exact BK142.out⟩, ⟨by repeat (first | (with_reducible first | exact HB.out | apply bA_ | apply bN_ | apply bD_ | refine bS_ ?_ GE136.out | refine bS_ ?_ GE137.out | refine bS_ ?_ GE142.out) | exact HB.out)⟩⟩
  case round =>
   clear H'
   try clear c1
   try clear p2
   try clear c3
   try clear c3b0
   try clear p6
   try clear c7
   try clear c8
   try clear c14
   try clear c17
   try clear c18
   try clear hcz10_0
   try clear hcz10_1
   try clear hcz15_0
   try clear hcz15_1
   try clear hcz19_0
   try clear hcz19_1
   try clear hcz20_0
   try clear hcz20_1
   try clear hcz8_0
   try clear hcz8_1
   try clear hfz10_0
   try clear hfz10_1
   try clear hfz15_0
   try clear hfz15_1
   try clear hfz19_0
   try clear hfz19_1
   try clear hfz20_0
   try clear hfz20_1
   try clear hfz8_0
   try clear hfz8_1
   obtain ⟨x22_1, x143001_1, u143001, rfl, HA, HK1, HO_143001, BK136, BK137, BK142, HB⟩ := hrel
   cases gk with
   | zero => exact absurd HA.out (by simp [subst_mappedA.l0])
   | succ k1 =>
    have H := HA.out
    clear HA
    simp only [subst_mappedA.l0] at H
    by_cases c21 : x22_1 < (l0_1.length : Int)
    ·rw [if_pos c21] at H
     have c21b0 : decide (x22_1 < (l0_1.length : Int)) = true := decide_eq_true c21
     clear c21
     by_cases c22 : 0 ≤ x22_1
     ·rw [if_pos c22] at H
      have c22b0 : decide (0 ≤ x22_1) = true := decide_eq_true c22
      clear c22
      by_cases c23 : x22_1 < (l0_1.length : Int)
      ·rw [if_pos c23] at H
       have c23b0 : decide (x22_1 < (l0_1.length : Int)) = true := decide_eq_true c23
       clear c23
       replace H := Option.bind_eq_some_iff.mp H
       obtain ⟨⟨t145, t146⟩, A240, H⟩ := H
       replace H : (if x143001_1.length < 4398046511104 then (subst_mappedA.l0 k1 l1 l0_1 (l0_1.length : Int) (wrap64 (x22_1 + 1)) a0_0 (x143001_1 ++ [(⟨t145, t146⟩ : S30)])) else (none)) = some (r1, r2) := H
       have A24 := Az_.mk A240
       clear A240
       by_cases c25 : x143001_1.length < 4398046511104
       ·rw [if_pos c25] at H
        have LMc25 := Az_.mk c25
        clear c25
        obtain ⟨y149, hy149⟩ : ∃ y_ : List (S30), y_ = (x143001_1 ++ [(⟨t145, t146⟩ : S30)]) := ⟨_, rfl⟩
        replace H : (subst_mappedA.l0 k1 l1 l0_1 (l0_1.length : Int) (wrap64 (x22_1 + 1)) a0_0 y149) = some (r1, r2) := by first | (rw [hy149]; with_reducible exact H) | (have H2_ := (Option.bind_some _ _).symm.trans H; rw [hy149]; with_reducible exact H2_) | (have H2_ := (Option.bind_some _ _).symm.trans H; with_reducible exact H2_) | with_reducible exact H | (rw [hy149]; exact H) | exact H
        have Ny149 := Az_.mk hy149
        clear hy149
        have H' := Az_.mk H
        clear H
        have p143 : 0 ≤ (x22_1 : Int) := of_decide_eq_true (by first | (with_reducible assumption) | assumption)
        have q143 : x22_1 < (l0_1.length : Int) := of_decide_eq_true (by first | (with_reducible assumption) | assumption)
        obtain ⟨ad143, A143_1, c143_1, e143, hx143_0, hx143_1, hl143_1, hi143_1⟩ := at_T30 HR0_1.out x22_1 p143 q143
        cases e143
        replace hx143_0 := (HB.out.cell (World.block_lt_of_cell? w _ hx143_0)).trans hx143_0
        replace hx143_1 := (HB.out.cell (World.block_lt_of_cell? w _ hx143_1)).trans hx143_1
        have HR143_1 := Az_.mk hi143_1
        have HC143_1 := Az_.mk hl143_1
        clear hi143_1 hl143_1
        replace p143 := eq_true p143
        replace q143 := eq_true q143
        try go_wp2_with (first | ((with_reducible refine yaj_ (N := 7) rfl ?_); refine yai_ ?hg (N := 7) ?hd (cs := #[.int .i64 0, .slice none 0 0]) (t := 30) ?hr ?_; (case hd => rfl); (case hg => rfl); (case hr => first | (go_simp; done) | (go_simp; rfl)); intro gb144 hg w26 hbox hb; have n0_ := Az_.mk (Kd.R_below (Kd.R_elderB (by (with_reducible repeat (first | apply Kd.R_alloc | apply Kd.R_drewN | apply Kd.R_drew)); exact HO_143001.out) gb144 (Nat.le_of_eq hg.symm)) hb); have n1_ := Az_.mk (kB_ (g := gb136) (o := .cells #[.int .i64 a0_0, .slice (some ad143) l0_1.length c0_1] 30 (0, 0)) (by (with_reducible repeat (first | refine kN_ ?_ _ | refine kD_ ?_ | refine kA_ ?_ _)); exact BK136.out) hb); have n2_ := Az_.mk (kB_ (g := gb137) (o := .cells #[.int .i64 0, .slice none 0 0] 30 (0, 0)) (by (with_reducible repeat (first | refine kN_ ?_ _ | refine kD_ ?_ | refine kA_ ?_ _)); exact BK137.out) hb); have n3_ := Az_.mk (kB_ (g := gb142) (o := .cells #[.int .i64 a0_0, u143001] 30 (0, 0)) (by (with_reducible repeat (first | refine kN_ ?_ _ | refine kD_ ?_ | refine kA_ ?_ _)); exact BK142.out) hb); have n4_ := Az_.mk (bT_ (by repeat (first | (with_reducible first | exact HB.out | apply bA_ | apply bN_ | apply bD_ | refine bS_ ?_ GE136.out | refine bS_ ?_ GE137.out | refine bS_ ?_ GE142.out) | exact HB.out)) hb); have n5_ := Az_.mk (hbox); have n6_ := Az_.mk ((by rw [hg]; exact (bZ_ (by repeat (first | (with_reducible first | exact HB.out | apply bA_ | apply bN_ | apply bD_ | refine bS_ ?_ GE136.out | refine bS_ ?_ GE137.out | refine bS_ ?_ GE142.out) | exact HB.out))) : w.heap.size ≤ gb144)); have n7_ := Az_.mk ((by rw [hg]; exact (bZ_ (by repeat (first | (with_reducible first | exact HB.out | apply bA_ | apply bN_ | apply bD_ | refine bS_ ?_ GE136.out | refine bS_ ?_ GE137.out | refine bS_ ?_ GE142.out) | exact HB.out))) : w.heap.size ≤ gb144)); have n8_ := Az_.mk ((by rw [hg]; exact Nat.ne_of_lt (blk_lt (g := gb136) (o := .cells #[.int .i64 a0_0, .slice (some ad143) l0_1.length c0_1] 30 (0, 0)) (by (with_reducible repeat (first | refine kN_ ?_ _ | refine kD_ ?_ | refine kA_ ?_ _)); exact BK136.out)) : gb136 ≠ gb144)); have n9_ := Az_.mk ((by rw [hg]; exact Nat.ne_of_gt (blk_lt (g := gb136) (o := .cells #[.int .i64 a0_0, .slice (some ad143) l0_1.length c0_1] 30 (0, 0)) (by (with_reducible repeat (first | refine kN_ ?_ _ | refine kD_ ?_ | refine kA_ ?_ _)); exact BK136.out)) : gb144 ≠ gb136)); have n10_ := Az_.mk ((by rw [hg]; exact Nat.ne_of_lt (blk_lt (g := gb137) (o := .cells #[.int .i64 0, .slice none 0 0] 30 (0, 0)) (by (with_reducible repeat (first | refine kN_ ?_ _ | refine kD_ ?_ | refine kA_ ?_ _)); exact BK137.out)) : gb137 ≠ gb144)); have n11_ := Az_.mk ((by rw [hg]; exact Nat.ne_of_gt (blk_lt (g := gb137) (o := .cells #[.int .i64 0, .slice none 0 0] 30 (0, 0)) (by (with_reducible repeat (first | refine kN_ ?_ _ | refine kD_ ?_ | refine kA_ ?_ _)); exact BK137.out)) : gb144 ≠ gb137)); have n12_ := Az_.mk ((by rw [hg]; exact Nat.ne_of_lt (blk_lt (g := gb142) (o := .cells #[.int .i64 a0_0, u143001] 30 (0, 0)) (by (with_reducible repeat (first | refine kN_ ?_ _ | refine kD_ ?_ | refine kA_ ?_ _)); exact BK142.out)) : gb142 ≠ gb144)); have n13_ := Az_.mk ((by rw [hg]; exact Nat.ne_of_gt (blk_lt (g := gb142) (o := .cells #[.int .i64 a0_0, u143001] 30 (0, 0)) (by (with_reducible repeat (first | refine kN_ ?_ _ | refine kD_ ?_ | refine kA_ ?_ _)); exact BK142.out)) : gb144 ≠ gb142)); clear HO_143001; clear BK136; clear BK137; clear BK142; clear HB; have HO_143001 := n0_; have BK136 := n1_; have BK137 := n2_; have BK142 := n3_; have HB := n4_; have BK144 := n5_; have GW144 := n6_; have GE144 := n7_; have NB136_144 := n8_; have NB144_136 := n9_; have NB137_144 := n10_; have NB144_137 := n11_; have NB142_144 := n12_; have NB144_142 := n13_; clear n0_ n1_ n2_ n3_ n4_ n5_ n6_ n7_ n8_ n9_ n10_ n11_ n12_ n13_; clear hb hbox hg; have hnb27 := NB144_136.out; have hnc27 := NB136_144.out; have hnb28 := NB144_137.out; have hnc28 := NB137_144.out; have hnb29 := NB144_142.out; have hnc29 := NB142_144.out; have hcz30_0 : w26.cell? ⟨gb144, 0, none⟩ = some (.int .i64 0) := (yaa_ BK144.out 0).trans rfl; have hcz30_1 : w26.cell? ⟨gb144, 1, none⟩ = some (.slice none 0 0) := (yaa_ BK144.out 1).trans rfl; have hfz30_0 := yab_ BK144.out 0; have hfz30_1 := yab_ BK144.out 1))
        have n0_ : Az_ (Kd.R k30 30 ((w26.setCell ⟨gb144, 0, none⟩ (.int .i64 ((rd_T30 l0_1 x22_1).f0))).setCell ⟨gb144, 1, none⟩ (.slice A143_1 ((rd_T30 l0_1 x22_1).f1).length c143_1)) w.heap.size (fun k_ => k_ ≠ gb136 ∧ k_ ≠ gb137 ∧ k_ ≠ gb142 ∧ k_ ≠ gb144) u143001 x143001_1) := ⟨by (with_reducible repeat (first | apply Kd.R_alloc | apply Kd.R_drewN | apply Kd.R_drew)); exact Kd.R_mono (Kd.R_far (p := ⟨gb144, 1, none⟩) (Kd.R_far (p := ⟨gb144, 0, none⟩) (Kd.R_mono HO_143001.out (fun k_ hk => (⟨hk, hk.2⟩ : _ ∧ k_ ≠ gb144))) (fun _ hk => hk.2) (.int .i64 ((rd_T30 l0_1 x22_1).f0))) (fun _ hk => hk.2) (.slice A143_1 ((rd_T30 l0_1 x22_1).f1).length c143_1)) (fun _ hk => ⟨hk.1.1.1, ⟨hk.1.1.2.1, ⟨hk.1.1.2.2, hk.1.2⟩⟩⟩)⟩
        have n1_ : Az_ (((w26.setCell ⟨gb144, 0, none⟩ (.int .i64 ((rd_T30 l0_1 x22_1).f0))).setCell ⟨gb144, 1, none⟩ (.slice A143_1 ((rd_T30 l0_1 x22_1).f1).length c143_1)).heap[gb136]? = some (.cells #[.int .i64 a0_0, .slice (some ad143) l0_1.length c0_1] 30 (0, 0))) := ⟨by (with_reducible repeat (first | refine kN_ ?_ _ | refine kD_ ?_ | refine kA_ ?_ _)); refine blk_far ?_ NB136_144.out _; (with_reducible repeat (first | refine kN_ ?_ _ | refine kD_ ?_ | refine kA_ ?_ _)); refine blk_far ?_ NB136_144.out _; (with_reducible repeat (first | refine kN_ ?_ _ | refine kD_ ?_ | refine kA_ ?_ _)); exact BK136.out⟩
        have n2_ : Az_ (((w26.setCell ⟨gb144, 0, none⟩ (.int .i64 ((rd_T30 l0_1 x22_1).f0))).setCell ⟨gb144, 1, none⟩ (.slice A143_1 ((rd_T30 l0_1 x22_1).f1).length c143_1)).heap[gb137]? = some (.cells #[.int .i64 0, .slice none 0 0] 30 (0, 0))) := ⟨by (with_reducible repeat (first | refine kN_ ?_ _ | refine kD_ ?_ | refine kA_ ?_ _)); refine blk_far ?_ NB137_144.out _; (with_reducible repeat (first | refine kN_ ?_ _ | refine kD_ ?_ | refine kA_ ?_ _)); refine blk_far ?_ NB137_144.out _; (with_reducible repeat (first | refine kN_ ?_ _ | refine kD_ ?_ | refine kA_ ?_ _)); exact BK137.out⟩
        have n3_ : Az_ (((w26.setCell ⟨gb144, 0, none⟩ (.int .i64 ((rd_T30 l0_1 x22_1).f0))).setCell ⟨gb144, 1, none⟩ (.slice A143_1 ((rd_T30 l0_1 x22_1).f1).length c143_1)).heap[gb142]? = some (.cells #[.int .i64 a0_0, u143001] 30 (0, 0))) := ⟨by (with_reducible repeat (first | refine kN_ ?_ _ | refine kD_ ?_ | refine kA_ ?_ _)); refine blk_far ?_ NB142_144.out _; (with_reducible repeat (first | refine kN_ ?_ _ | refine kD_ ?_ | refine kA_ ?_ _)); refine blk_far ?_ NB142_144.out _; (with_reducible repeat (first | refine kN_ ?_ _ | refine kD_ ?_ | refine kA_ ?_ _)); exact BK142.out⟩
        have n4_ : Az_ (((w26.setCell ⟨gb144, 0, none⟩ (.int .i64 ((rd_T30 l0_1 x22_1).f0))).setCell ⟨gb144, 1, none⟩ (.slice A143_1 ((rd_T30 l0_1 x22_1).f1).length c143_1)).heap[gb144]? = some (.cells #[.int .i64 ((rd_T30 l0_1 x22_1).f0), .slice A143_1 ((rd_T30 l0_1 x22_1).f1).length c143_1] 30 (0, 0))) := ⟨by (with_reducible repeat (first | refine kN_ ?_ _ | refine kD_ ?_ | refine kA_ ?_ _)); refine blk_put (cs := #[.int .i64 ((rd_T30 l0_1 x22_1).f0), .slice none 0 0]) ?_ 1 _ rfl; (with_reducible repeat (first | refine kN_ ?_ _ | refine kD_ ?_ | refine kA_ ?_ _)); refine blk_put (cs := #[.int .i64 0, .slice none 0 0]) ?_ 0 _ rfl; (with_reducible repeat (first | refine kN_ ?_ _ | refine kD_ ?_ | refine kA_ ?_ _)); exact BK144.out⟩
        have n5_ : Az_ (Below w.heap.size w ((w26.setCell ⟨gb144, 0, none⟩ (.int .i64 ((rd_T30 l0_1 x22_1).f0))).setCell ⟨gb144, 1, none⟩ (.slice A143_1 ((rd_T30 l0_1 x22_1).f1).length c143_1))) := ⟨by repeat (first | (with_reducible first | exact HB.out | apply bA_ | apply bN_ | apply bD_ | refine bS_ ?_ GE136.out | refine bS_ ?_ GE137.out | refine bS_ ?_ GE142.out | refine bS_ ?_ GE144.out) | exact HB.out)⟩
        (try clear HO_143001)
        (try clear BK136)
        (try clear BK137)
        (try clear BK142)
        (try clear BK144)
        (try clear HB)
        generalize ((w26.setCell ⟨gb144, 0, none⟩ (.int .i64 ((rd_T30 l0_1 x22_1).f0))).setCell ⟨gb144, 1, none⟩ (.slice A143_1 ((rd_T30 l0_1 x22_1).f1).length c143_1)) = w31 at n0_ n1_ n2_ n3_ n4_ n5_ ⊢
        have HO_143001 := n0_
        have BK136 := n1_
        have BK137 := n2_
        have BK142 := n3_
        have BK144 := n4_
        have HB := n5_
        clear n0_ n1_ n2_ n3_ n4_ n5_
        have n0_ := Az_.mk (Kd.R_drew HO_143001.out)
        have n1_ := Az_.mk (kD_ BK136.out)
        have n2_ := Az_.mk (kD_ BK137.out)
        have n3_ := Az_.mk (kD_ BK142.out)
        have n4_ := Az_.mk (kD_ BK144.out)
        have n5_ := Az_.mk (bD_ HB.out)
        clear HO_143001
        clear BK136
        clear BK137
        clear BK142
        clear BK144
        clear HB
        have HO_143001 := n0_
        have BK136 := n1_
        have BK137 := n2_
        have BK142 := n3_
        have BK144 := n4_
        have HB := n5_
        clear n0_ n1_ n2_ n3_ n4_ n5_
        refine start_ (n := 9) (S := fun w' => w'.cell? ⟨gb142, 0, none⟩ = some (.int .i64 a0_0) ∧ w'.cell? ⟨gb142, 1, none⟩ = some (u143001) ∧ w'.cell? ⟨gb144, 0, none⟩ = some (.int .i64 ((rd_T30 l0_1 x22_1).f0)) ∧ w'.cell? ⟨gb144, 1, none⟩ = some (.slice A143_1 ((rd_T30 l0_1 x22_1).f1).length c143_1)) (ds := [8]) #[false, false, false, false, false, false, false, false, false] (by kernel_rfl) rfl rfl ⟨(yaa_ BK142.out 0).trans rfl, (yaa_ BK142.out 1).trans rfl, (yaa_ BK144.out 0).trans rfl, (yaa_ BK144.out 1).trans rfl⟩ (fun hHeld => ?_); refine with_tabW subst_mappedA.tab7 subst_mappedA.bits7 (fun HT_ HW_ => ?_)
        generalize w31.drew = w32 at HO_143001 BK136 BK137 BK142 BK144 HB hHeld ⊢
        refine pure_ (i := 0) (N := some 26) (v := ?_) (a' := ?_) #[true, false, false, false, false, false, false, false, false] rfl rfl (any_of HT_.out (by kernel_rfl)) (fun _ _ _ h => h) (Or.inl ⟨by rfl, ?_⟩) ?_ ?_
        rotate_left
        ·intro w'
         go_simp
         with_reducible rfl
        rotate_left
        ·simp only [Act.put, List.setIfInBounds_toArray, List.set_cons_zero, List.set_cons_succ, i64_w, i32_w]
         rfl
        refine pure_ (i := 3) (N := some 29) (v := ?_) (a' := ?_) #[true, false, false, true, false, false, false, false, false] rfl rfl (any_of HT_.out (by kernel_rfl)) (fun _ _ _ h => h) (Or.inl ⟨by rfl, ?_⟩) ?_ ?_
        rotate_left
        ·intro w'
         go_simp
         with_reducible rfl
        rotate_left
        ·simp only [Act.put, List.setIfInBounds_toArray, List.set_cons_zero, List.set_cons_succ, i64_w, i32_w]
         rfl
        refine take_ (i := 1) (N := some 27) (v := ?_) (a' := ?_) #[true, true, false, true, false, false, false, false, false] rfl rfl (yam_ HT_.out HW_.out (by kernel_rfl)) (fun _ _ _ h => h) (Or.inl ⟨by rfl, ?_⟩) hHeld ?_ ?_
        rotate_left
        ·rintro w' ⟨s0, s1, s2, s3⟩
         go_simp
         with_reducible rfl
        rotate_left
        ·simp only [Act.put, List.setIfInBounds_toArray, List.set_cons_zero, List.set_cons_succ, i64_w, i32_w]
         rfl
        refine take_ (i := 2) (N := some 28) (v := ?_) (a' := ?_) #[true, true, true, true, false, false, false, false, false] rfl rfl (yam_ HT_.out HW_.out (by kernel_rfl)) (fun _ _ _ h => h) (Or.inl ⟨by rfl, ?_⟩) hHeld ?_ ?_
        rotate_left
        ·rintro w' ⟨s0, s1, s2, s3⟩
         go_simp
         with_reducible rfl
        rotate_left
        ·simp only [Act.put, List.setIfInBounds_toArray, List.set_cons_zero, List.set_cons_succ, i64_w, i32_w]
         rfl
        refine one_ (i := 4) (N := some 30) #[true, true, true, true, true, false, false, false, false] rfl rfl (one_of HT_.out (by kernel_rfl)) (by decide) (fun K hK => ?_)
        refine goes_ Try.func81 (by kernel_rfl) rfl #[.agg #[.int .i64 ((rd_T30 l0_1 x22_1).f0), .slice A143_1 ((rd_T30 l0_1 x22_1).f1).length c143_1], (.func (.func 84) #[] #[.pointer (some ⟨gq, 0, none⟩)])] (by rfl) rfl rfl (by (try simp only [List.map_toArray, List.map_cons, List.map_nil]); first | done | rfl | (simp only [List.length_drop, List.length_take]; rfl)) ?_
        with_reducible refine (ih k1 (by have := HK1.out; omega) ((rd_T30 l0_1 x22_1).f0) _ _ ((rd_T30 l0_1 x22_1).f1) _ _ l1 t145 t146 _ ?side1 ?side2 ?side3 ?side4 (HQ.out _ (by repeat (first | (with_reducible first | exact HB.out | apply bA_ | apply bN_ | apply bD_) | exact HB.out))) A24.out).mono ?_
        (case side1 => repeat (first | exact (Kd.C_below HR143_1.out HB.out) | (with_reducible refine Kd.C_alloc ?_ _) | (with_reducible refine Kd.C_drewN ?_ _) | (with_reducible refine Kd.C_drew ?_)))
        (case side2 => exact HC143_1.out)
        (case side3 => repeat (first | exact (Kd.C_below HR1.out HB.out) | (with_reducible refine Kd.C_alloc ?_ _) | (with_reducible refine Kd.C_drewN ?_ _) | (with_reducible refine Kd.C_drew ?_)))
        (case side4 => exact HC1.out)
        rintro e w33 ⟨v147, rfl, ho0, hb⟩
        refine ⟨_, rfl, ?_⟩
        have n0_ := Az_.mk (Kd.R_elder' (by (with_reducible repeat (first | apply Kd.R_alloc | apply Kd.R_drewN | apply Kd.R_drew)); exact HO_143001.out) (Kd.R_base ho0) hb)
        have n1_ := Az_.mk (Kd.R_lower (Kd.R_newB (Kd.R_newB (Kd.R_newB (Kd.R_newB (Kd.R_new' ho0 (Kd.R_lt (by (with_reducible repeat (first | apply Kd.R_alloc | apply Kd.R_drewN | apply Kd.R_drew)); exact HO_143001.out))) (g := gb136) (o := .cells #[.int .i64 a0_0, .slice (some ad143) l0_1.length c0_1] 30 (0, 0)) (by (with_reducible repeat (first | refine kN_ ?_ _ | refine kD_ ?_ | refine kA_ ?_ _)); exact BK136.out)) (g := gb137) (o := .cells #[.int .i64 0, .slice none 0 0] 30 (0, 0)) (by (with_reducible repeat (first | refine kN_ ?_ _ | refine kD_ ?_ | refine kA_ ?_ _)); exact BK137.out)) (g := gb142) (o := .cells #[.int .i64 a0_0, u143001] 30 (0, 0)) (by (with_reducible repeat (first | refine kN_ ?_ _ | refine kD_ ?_ | refine kA_ ?_ _)); exact BK142.out)) (g := gb144) (o := .cells #[.int .i64 ((rd_T30 l0_1 x22_1).f0), .slice A143_1 ((rd_T30 l0_1 x22_1).f1).length c143_1] 30 (0, 0)) (by (with_reducible repeat (first | refine kN_ ?_ _ | refine kD_ ?_ | refine kA_ ?_ _)); exact BK144.out)) (bZ_ (by repeat (first | (with_reducible first | exact HB.out | apply bA_ | apply bN_ | apply bD_ | refine bS_ ?_ GE136.out | refine bS_ ?_ GE137.out | refine bS_ ?_ GE142.out | refine bS_ ?_ GE144.out) | exact HB.out))))
        have n2_ := Az_.mk (kB_ (g := gb136) (o := .cells #[.int .i64 a0_0, .slice (some ad143) l0_1.length c0_1] 30 (0, 0)) (by (with_reducible repeat (first | refine kN_ ?_ _ | refine kD_ ?_ | refine kA_ ?_ _)); exact BK136.out) hb)
        have n3_ := Az_.mk (kB_ (g := gb137) (o := .cells #[.int .i64 0, .slice none 0 0] 30 (0, 0)) (by (with_reducible repeat (first | refine kN_ ?_ _ | refine kD_ ?_ | refine kA_ ?_ _)); exact BK137.out) hb)
        have n4_ := Az_.mk (kB_ (g := gb142) (o := .cells #[.int .i64 a0_0, u143001] 30 (0, 0)) (by (with_reducible repeat (first | refine kN_ ?_ _ | refine kD_ ?_ | refine kA_ ?_ _)); exact BK142.out) hb)
        have n5_ := Az_.mk (kB_ (g := gb144) (o := .cells #[.int .i64 ((rd_T30 l0_1 x22_1).f0), .slice A143_1 ((rd_T30 l0_1 x22_1).f1).length c143_1] 30 (0, 0)) (by (with_reducible repeat (first | refine kN_ ?_ _ | refine kD_ ?_ | refine kA_ ?_ _)); exact BK144.out) hb)
        have n6_ := Az_.mk (bT_ (by repeat (first | (with_reducible first | exact HB.out | apply bA_ | apply bN_ | apply bD_ | refine bS_ ?_ GE136.out | refine bS_ ?_ GE137.out | refine bS_ ?_ GE142.out | refine bS_ ?_ GE144.out) | exact HB.out)) hb)
        clear HO_143001
        clear BK136
        clear BK137
        clear BK142
        clear BK144
        clear HB
        have HO_143001 := n0_
        have HO148 := n1_
        have BK136 := n2_
        have BK137 := n3_
        have BK142 := n4_
        have BK144 := n5_
        have HB := n6_
        clear n0_ n1_ n2_ n3_ n4_ n5_ n6_
        (try clear hb)
        (try clear hb2)
        (try clear hk)
        (try clear hi)
        (try clear ho0)
        obtain ⟨Ao35, co35, eo35⟩ := Kd.R_slice HO148.out
        (first | subst eo35 | (injection eo35 with f1_ f2_ f3_; have f4_ := f1_.symm; have f5_ := f3_.symm; clear f1_ f2_ f3_; subst f4_; subst f5_))
        refine hK.out _ _ ⟨(yaa_ BK142.out 0).trans rfl, (yaa_ BK142.out 1).trans rfl, (yaa_ BK144.out 0).trans rfl, (yaa_ BK144.out 1).trans rfl⟩ (fun hHeld => ?_)
        clear hK K
        refine norm_ (a' := ?_) ?_ ?_
        rotate_left
        ·show Act.put _ (some 30) _ = _
         simp only [Act.put, List.setIfInBounds_toArray, List.set_cons_zero, List.set_cons_succ, i64_w, i32_w]
         rfl
        refine one_ (i := 5) (N := some 31) #[true, true, true, true, true, true, false, false, false] rfl rfl (one_of HT_.out (by kernel_rfl)) (by decide) (fun K hK => ?_)
        refine value_ (w1 := ?_) (v := ?_) (by rfl) rfl ?_ ?_
        rotate_left 2
        ·go_simp
         constructor
         ·rfl
         ·rfl
        refine hK.out _ _ ⟨(yaa_ (kA_ BK142.out _) 0).trans rfl, (yaa_ (kA_ BK142.out _) 1).trans rfl, (yaa_ (kA_ BK144.out _) 0).trans rfl, (yaa_ (kA_ BK144.out _) 1).trans rfl⟩ (fun hHeld => ?_)
        clear hK K
        refine norm_ (a' := ?_) ?_ ?_
        rotate_left
        ·show Act.put _ (some 31) _ = _
         simp only [Act.put, List.setIfInBounds_toArray, List.set_cons_zero, List.set_cons_succ, i64_w, i32_w]
         rfl
        refine one_ (i := 6) (N := some 32) #[true, true, true, true, true, true, true, false, false] rfl rfl (one_of HT_.out (by kernel_rfl)) (by decide) (fun K hK => ?_)
        refine Kd.R_append_step k30 (w0 := w) w.heap.size (by rfl) (.tmp 27) (.tmp 31) 28 30 (.agg #[(.int .i64 0), (.slice none 0 0)]) 32 rfl Try.underlying28 info30 rfl (by decide) (by omega) u143001 x143001_1 (⟨t145, t146⟩ : S30) [.int .i64 t145, .slice Ao35 t146.length co35] (fun k_ => k_ ≠ gb136 ∧ k_ ≠ gb137 ∧ k_ ≠ gb142 ∧ k_ ≠ gb144) (fun k_ => ((fun k_ => k_ ≠ gb136 ∧ k_ ≠ gb137 ∧ k_ ≠ gb142 ∧ k_ ≠ gb144)) k_ ∧ some k_ ≠ (u143001 : Value).ownBlock) rfl rfl ?aP (fun _ hk => hk) ?aF ?aO ?aB ?aS ?aL ?_
        (case aP => exact k30_mkM _ _ _ (⟨t145, t146⟩ : S30) (Kd.R_mono (HO148.out) (fun k_ hk => ⟨⟨hk.1.1.1.2, ⟨hk.1.1.2, ⟨hk.1.2, hk.2⟩⟩⟩, hk.1.1.1.1.2⟩)))
        (case aB => exact (by repeat (first | (with_reducible first | exact HB.out | apply bA_ | apply bN_ | apply bD_ | refine bS_ ?_ GE136.out | refine bS_ ?_ GE137.out | refine bS_ ?_ GE142.out | refine bS_ ?_ GE144.out) | exact HB.out)))
        (case aF => exact (fun k_ hk => ⟨Kd.freshB (g := gb136) (o := .cells #[.int .i64 a0_0, .slice (some ad143) l0_1.length c0_1] 30 (0, 0)) (by (with_reducible repeat (first | refine kN_ ?_ _ | refine kD_ ?_ | refine kA_ ?_ _)); exact BK136.out) k_ hk, Kd.freshB (g := gb137) (o := .cells #[.int .i64 0, .slice none 0 0] 30 (0, 0)) (by (with_reducible repeat (first | refine kN_ ?_ _ | refine kD_ ?_ | refine kA_ ?_ _)); exact BK137.out) k_ hk, Kd.freshB (g := gb142) (o := .cells #[.int .i64 a0_0, u143001] 30 (0, 0)) (by (with_reducible repeat (first | refine kN_ ?_ _ | refine kD_ ?_ | refine kA_ ?_ _)); exact BK142.out) k_ hk, Kd.freshB (g := gb144) (o := .cells #[.int .i64 ((rd_T30 l0_1 x22_1).f0), .slice A143_1 ((rd_T30 l0_1 x22_1).f1).length c143_1] 30 (0, 0)) (by (with_reducible repeat (first | refine kN_ ?_ _ | refine kD_ ?_ | refine kA_ ?_ _)); exact BK144.out) k_ hk⟩))
        (case aO => exact (by (with_reducible repeat (first | apply Kd.R_alloc | apply Kd.R_drewN | apply Kd.R_drew)); exact Kd.R_mono HO_143001.out (fun _ hk => ⟨hk.1.1, ⟨hk.1.2.1, ⟨hk.1.2.2.1, hk.1.2.2.2⟩⟩⟩)))
        (case aS => exact (bZ_ (by repeat (first | (with_reducible first | exact HB.out | apply bA_ | apply bN_ | apply bD_ | refine bS_ ?_ GE136.out | refine bS_ ?_ GE137.out | refine bS_ ?_ GE142.out | refine bS_ ?_ GE144.out) | exact HB.out))))
        (case aL => have := LMc25.out; omega)
        intro v150 w34 ho hb hg hat
        rw [← Ny149.out] at ho
        have n0_ := Az_.mk (blk_grown (g := gb136) (o := .cells #[.int .i64 a0_0, .slice (some ad143) l0_1.length c0_1] 30 (0, 0)) (by (with_reducible repeat (first | refine kN_ ?_ _ | refine kD_ ?_ | refine kA_ ?_ _)); exact BK136.out) hg (Kd.R_away HO_143001.out (fun _ hk => hk.1.1)))
        have n1_ := Az_.mk (blk_grown (g := gb137) (o := .cells #[.int .i64 0, .slice none 0 0] 30 (0, 0)) (by (with_reducible repeat (first | refine kN_ ?_ _ | refine kD_ ?_ | refine kA_ ?_ _)); exact BK137.out) hg (Kd.R_away HO_143001.out (fun _ hk => hk.1.2.1)))
        have n2_ := Az_.mk (blk_grown (g := gb142) (o := .cells #[.int .i64 a0_0, u143001] 30 (0, 0)) (by (with_reducible repeat (first | refine kN_ ?_ _ | refine kD_ ?_ | refine kA_ ?_ _)); exact BK142.out) hg (Kd.R_away HO_143001.out (fun _ hk => hk.1.2.2.1)))
        have n3_ := Az_.mk (blk_grown (g := gb144) (o := .cells #[.int .i64 ((rd_T30 l0_1 x22_1).f0), .slice A143_1 ((rd_T30 l0_1 x22_1).f1).length c143_1] 30 (0, 0)) (by (with_reducible repeat (first | refine kN_ ?_ _ | refine kD_ ?_ | refine kA_ ?_ _)); exact BK144.out) hg (Kd.R_away HO_143001.out (fun _ hk => hk.1.2.2.2)))
        have n4_ := Az_.mk (hb)
        have n5_ := Az_.mk (ho)
        clear BK136
        clear BK137
        clear BK142
        clear BK144
        clear HB
        clear HO_143001
        clear HO148
        have BK136 := n0_
        have BK137 := n1_
        have BK142 := n2_
        have BK144 := n3_
        have HB := n4_
        have HO151 := n5_
        clear n0_ n1_ n2_ n3_ n4_ n5_
        clear ho hb hg hat
        obtain ⟨Ao36, co36, eo36⟩ := Kd.R_slice HO151.out
        (first | subst eo36 | (injection eo36 with f1_ f2_ f3_; have f4_ := f1_.symm; have f5_ := f3_.symm; clear f1_ f2_ f3_; subst f4_; subst f5_))
        refine hK.out _ _ ⟨(yaa_ BK142.out 0).trans rfl, (yaa_ BK142.out 1).trans rfl, (yaa_ BK144.out 0).trans rfl, (yaa_ BK144.out 1).trans rfl⟩ (fun hHeld => ?_)
        clear hK K
        refine norm_ (a' := ?_) ?_ ?_
        rotate_left
        ·show Act.put _ (some 32) _ = _
         simp only [Act.put, List.setIfInBounds_toArray, List.set_cons_zero, List.set_cons_succ, i64_w, i32_w]
         rfl
        refine pure_ (i := 7) (N := some 33) (v := ?_) (a' := ?_) #[true, true, true, true, true, true, true, true, false] rfl rfl (any_of HT_.out (by kernel_rfl)) (fun _ _ _ h => h) (Or.inl ⟨by rfl, ?_⟩) ?_ ?_
        rotate_left
        ·intro w'
         go_simp
         with_reducible rfl
        rotate_left
        ·simp only [Act.put, List.setIfInBounds_toArray, List.set_cons_zero, List.set_cons_succ, i64_w, i32_w]
         rfl
        refine last_ (i := 8) (N := none) #[true, true, true, true, true, true, true, true, true] rfl rfl (one_of HT_.out (by kernel_rfl)) (by decide) (fun K hK => ?_)
        have hs37 : w34.cell? ⟨gb142, 1, none⟩ = some (u143001) := (yaa_ BK142.out 1).trans rfl
        have hfs37 := yab_ BK142.out 1
        have hns37_0 := NB136_142.out
        have hns37_1 := NB137_142.out
        have hns37_3 := NB144_142.out
        have hms37_0 := NB142_136.out
        have hms37_1 := NB142_137.out
        have hms37_3 := NB142_144.out
        refine skip_ (w1 := ?_) (by rfl) rfl ?_ ?_
        rotate_left
        ·go_simp
         rfl
        refine hK.out _ _ ?_
        clear hK K
        refine done_ (done_of HT_.out (by kernel_rfl)) ?_
        try go_wp2
        go_roundg k1
        case measure => have := HK1.out; omega
        case rel => exact ⟨(wrap64 (x22_1 + 1)), (y149), (.slice Ao36 y149.length co36), (by first | rfl | (simp; done) | (simp [*]; done)), H', ⟨by have := HK1.out; omega⟩, ⟨by (with_reducible repeat (first | apply Kd.R_alloc | apply Kd.R_drewN | apply Kd.R_drew)); exact Kd.R_mono (Kd.R_far (p := ⟨gb142, 1, none⟩) (Kd.R_mono HO151.out (fun k_ hk => (⟨hk, hk.2.2.1⟩ : _ ∧ k_ ≠ gb142))) (fun _ hk => hk.2) (.slice Ao36 y149.length co36)) (fun _ hk => ⟨hk.1.1, ⟨hk.1.2.1, hk.1.2.2.1⟩⟩)⟩, ⟨by (with_reducible repeat (first | refine kN_ ?_ _ | refine kD_ ?_ | refine kA_ ?_ _)); refine blk_far ?_ NB136_142.out _; (with_reducible repeat (first | refine kN_ ?_ _ | refine kD_ ?_ | refine kA_ ?_ _)); exact BK136.out⟩, ⟨by (with_reducible repeat (first | refine kN_ ?_ _ | refine kD_ ?_ | refine kA_ ?_ _)); refine blk_far ?_ NB137_142.out _; (with_reducible repeat (first | refine kN_ ?_ _ | refine kD_ ?_ | refine kA_ ?_ _)); exact BK137.out⟩, ⟨by (with_reducible repeat (first | refine kN_ ?_ _ | refine kD_ ?_ | refine kA_ ?_ _)); refine blk_put (cs := #[.int .i64 a0_0, u143001]) ?_ 1 _ rfl; (with_reducible repeat (first | refine kN_ ?_ _ | refine kD_ ?_ | refine kA_ ?_ _)); exact BK142.out⟩, ⟨by repeat (first | (with_reducible first | exact HB.out | apply bA_ | apply bN_ | apply bD_ | refine bS_ ?_ GE136.out | refine bS_ ?_ GE137.out | refine bS_ ?_ GE142.out | refine bS_ ?_ GE144.out) | exact HB.out)⟩⟩
       ·rw [if_neg c25] at H
        exact absurd H (by simp)
      ·rw [if_neg c23] at H
       exact absurd H (by simp)
     ·rw [if_neg c22] at H
      exact absurd H (by simp)
    ·rw [if_neg c21] at H
     have c21b0 : decide (x22_1 < (l0_1.length : Int)) = false := decide_eq_false c21
     clear c21
     simp only [Option.some.injEq, Prod.mk.injEq] at H
     obtain ⟨rfl, rfl⟩ := H
     have hnb38 := NB142_136.out
     have hnc38 := NB136_142.out
     have hnb39 := NB142_137.out
     have hnc39 := NB137_142.out
     have hcz40_0 : wr.cell? ⟨gb142, 0, none⟩ = some (.int .i64 a0_0) := (yaa_ BK142.out 0).trans rfl
     have hcz40_1 : wr.cell? ⟨gb142, 1, none⟩ = some (u143001) := (yaa_ BK142.out 1).trans rfl
     have hfz40_0 := yab_ BK142.out 0
     have hfz40_1 := yab_ BK142.out 1
     have hnb41 := NB137_136.out
     have hnc41 := NB136_137.out
     have hcz42_0 : wr.cell? ⟨gb137, 0, none⟩ = some (.int .i64 0) := (yaa_ BK137.out 0).trans rfl
     have hcz42_1 : wr.cell? ⟨gb137, 1, none⟩ = some (.slice none 0 0) := (yaa_ BK137.out 1).trans rfl
     have hfz42_0 := yab_ BK137.out 0
     have hfz42_1 := yab_ BK137.out 1
     obtain ⟨Ao43, co43, eo43⟩ := Kd.R_slice HO_143001.out
     subst eo43
     go_wp2
     refine bodyPost_ret (results_cell_row rfl _ _ gb137 30 #[.int .i64 a0_0, .slice Ao43 x143001_1.length co43] (0, 0) _ rfl (by (with_reducible repeat (first | refine kN_ ?_ _ | refine kD_ ?_ | refine kA_ ?_ _)); refine blk_put (cs := #[.int .i64 a0_0, .slice none 0 0]) ?_ 1 _ rfl; (with_reducible repeat (first | refine kN_ ?_ _ | refine kD_ ?_ | refine kA_ ?_ _)); refine blk_put (cs := #[.int .i64 0, .slice none 0 0]) ?_ 0 _ rfl; (with_reducible repeat (first | refine kN_ ?_ _ | refine kD_ ?_ | refine kA_ ?_ _)); exact BK137.out) Try.underlying30 rfl (by kernel_rfl)) rfl ?_
     exact ⟨_, by first | rfl | (simp [yae_, yad_] <;> rfl) | (simp [*, yae_, yad_] <;> rfl), by (with_reducible repeat (first | apply Kd.R_alloc | apply Kd.R_drewN | apply Kd.R_drew)); exact Kd.R_mono (Kd.R_far (p := ⟨gb137, 1, none⟩) (Kd.R_far (p := ⟨gb137, 0, none⟩) (Kd.R_mono HO_143001.out (fun k_ hk => (⟨hk, hk.2.1⟩ : _ ∧ k_ ≠ gb137))) (fun _ hk => hk.2) (.int .i64 a0_0)) (fun _ hk => hk.2) (.slice Ao43 x143001_1.length co43)) (fun _ hk => trivial), by repeat (first | (with_reducible first | exact HB.out | apply bA_ | apply bN_ | apply bD_ | refine bS_ ?_ GE136.out | refine bS_ ?_ GE137.out | refine bS_ ?_ GE142.out) | exact HB.out)⟩
end
section
attribute [local go_sem] yaq_ yao_ max_two min_two yal_ yak_ yap_ yan_
def soriteslaw07_Fine.l0 : Nat → List (S112) → Int → Option (Bool)
 | 0, _, _ => none
 | k + 1, x0, x3 => if x3 < (x0.length : Int) then (if 0 ≤ x3 then (if ((rd_T112 x0 x3).f0) < 0 then (some false) else (if ((rd_T112 x0 x3).f0) > 1000 then (some false) else ((soriteslaw06_Small.f k ((rd_T112 x0 x3).f1.f0) ((rd_T112 x0 x3).f1.f1) 20 10).bind fun t353 => (if t353 < 0 then (some false) else (soriteslaw07_Fine.l0 k x0 (wrap64 (x3 + 1))))))) else (none)) else (some (decide ((x0.length : Int) ≤ 8)))
def soriteslaw07_Fine.f (k : Nat) (l0 : List (S112)) : Option (Bool) := soriteslaw07_Fine.l0 k l0 0
set_option maxHeartbeats 8000000 in
set_option maxRecDepth 100000 in
theorem soriteslaw07_Fine.calls (k : Nat) (A0 : Option Addr) (c0 : Nat) (l0 : List (S112)) (r : Bool) (w : World) (hr0 : Kd.C k112 w A0 l0.length l0) (hc0 : l0.length ≤ c0) (h : soriteslaw07_Fine.f k l0 = some r) :
  Calls Try.prog 51 #[.slice A0 l0.length c0] w fun e w' => e = .returned (.bool r) ∧ Below w.heap.size w w' := by
 have hu24 := Try.underlying24
 have HR0 := Az_.mk hr0
 have HC0 := Az_.mk hc0
 clear hr0 hc0
 have HB := Az_.mk (Below.refl w.heap.size w)
 have H : (soriteslaw07_Fine.l0 k l0 0) = some r := h
 clear h
 have H' := Az_.mk H
 clear H
 go_enter Try.func51, Try.ntmps51
 go_wp2
 go_loopg [3] k (fun kq v3 w' => ∃ (x3_1 : Int), v3 = .int .i64 x3_1 ∧ Az_ (soriteslaw07_Fine.l0 kq l0 x3_1 = some r) ∧ Az_ (kq ≤ k) ∧ Az_ (Below w.heap.size w w'))
 case atStart => exact ⟨(0), (by first | rfl | (simp; done) | (simp [*]; done)), H', ⟨Nat.le_refl _⟩, ⟨by repeat (first | (with_reducible first | exact HB.out | apply bA_ | apply bN_ | apply bD_) | exact HB.out)⟩⟩
 case round =>
  clear H'
  obtain ⟨x3_1, rfl, HA, HK1, HB⟩ := hrel
  cases gk with
  | zero => exact absurd HA.out (by simp [soriteslaw07_Fine.l0])
  | succ k1 =>
   have H := HA.out
   clear HA
   simp only [soriteslaw07_Fine.l0] at H
   by_cases c2 : x3_1 < (l0.length : Int)
   ·rw [if_pos c2] at H
    have c2b0 : decide (x3_1 < (l0.length : Int)) = true := decide_eq_true c2
    clear c2
    by_cases c3 : 0 ≤ x3_1
    ·rw [if_pos c3] at H
     have c3b0 : decide (0 ≤ x3_1) = true := decide_eq_true c3
     clear c3
     by_cases c4 : ((rd_T112 l0 x3_1).f0) < 0
     ·rw [if_pos c4] at H
      have c4b0 : decide (((rd_T112 l0 x3_1).f0) < 0) = true := decide_eq_true c4
      clear c4
      obtain rfl := Option.some.inj H
      have p350 : 0 ≤ (x3_1 : Int) := of_decide_eq_true (by first | (with_reducible assumption) | assumption)
      have q350 : x3_1 < (l0.length : Int) := of_decide_eq_true (by first | (with_reducible assumption) | assumption)
      obtain ⟨ad350, A350_2, c350_2, e350, hx350_0, hx350_1, hx350_2, hl350_2, hi350_2⟩ := at_T112 HR0.out x3_1 p350 q350
      cases e350
      replace hx350_0 := (HB.out.cell (World.block_lt_of_cell? w _ hx350_0)).trans hx350_0
      replace hx350_1 := (HB.out.cell (World.block_lt_of_cell? w _ hx350_1)).trans hx350_1
      replace hx350_2 := (HB.out.cell (World.block_lt_of_cell? w _ hx350_2)).trans hx350_2
      have HR350_2 := Az_.mk hi350_2
      have HC350_2 := Az_.mk hl350_2
      clear hi350_2 hl350_2
      replace p350 := eq_true p350
      replace q350 := eq_true q350
      go_wp2
      go_ret
      exact ⟨by first | rfl | (simp [yae_, yad_] <;> rfl) | (simp [*, yae_, yad_] <;> rfl), by repeat (first | (with_reducible first | exact HB.out | apply bA_ | apply bN_ | apply bD_) | exact HB.out)⟩
     ·rw [if_neg c4] at H
      have c4b0 : decide (((rd_T112 l0 x3_1).f0) < 0) = false := decide_eq_false c4
      clear c4
      by_cases c5 : ((rd_T112 l0 x3_1).f0) > 1000
      ·rw [if_pos c5] at H
       have c5b0 : decide (1000 < ((rd_T112 l0 x3_1).f0)) = true := decide_eq_true c5
       clear c5
       obtain rfl := Option.some.inj H
       have p350 : 0 ≤ (x3_1 : Int) := of_decide_eq_true (by first | (with_reducible assumption) | assumption)
       have q350 : x3_1 < (l0.length : Int) := of_decide_eq_true (by first | (with_reducible assumption) | assumption)
       obtain ⟨ad350, A350_2, c350_2, e350, hx350_0, hx350_1, hx350_2, hl350_2, hi350_2⟩ := at_T112 HR0.out x3_1 p350 q350
       cases e350
       replace hx350_0 := (HB.out.cell (World.block_lt_of_cell? w _ hx350_0)).trans hx350_0
       replace hx350_1 := (HB.out.cell (World.block_lt_of_cell? w _ hx350_1)).trans hx350_1
       replace hx350_2 := (HB.out.cell (World.block_lt_of_cell? w _ hx350_2)).trans hx350_2
       have HR350_2 := Az_.mk hi350_2
       have HC350_2 := Az_.mk hl350_2
       clear hi350_2 hl350_2
       replace p350 := eq_true p350
       replace q350 := eq_true q350
       have p351 : 0 ≤ (x3_1 : Int) := of_decide_eq_true (by first | (with_reducible assumption) | assumption)
       have q351 : x3_1 < (l0.length : Int) := of_decide_eq_true (by first | (with_reducible assumption) | assumption)
       obtain ⟨ad351, A351_2, c351_2, e351, hx351_0, hx351_1, hx351_2, hl351_2, hi351_2⟩ := at_T112 HR0.out x3_1 p351 q351
       obtain rfl : ad350 = ad351 := (by injection e351)
       replace hx351_0 := (HB.out.cell (World.block_lt_of_cell? w _ hx351_0)).trans hx351_0
       replace hx351_1 := (HB.out.cell (World.block_lt_of_cell? w _ hx351_1)).trans hx351_1
       replace hx351_2 := (HB.out.cell (World.block_lt_of_cell? w _ hx351_2)).trans hx351_2
       have HR351_2 := Az_.mk hi351_2
       have HC351_2 := Az_.mk hl351_2
       clear hi351_2 hl351_2
       replace p351 := eq_true p351
       replace q351 := eq_true q351
       have ea_ := Option.some.inj (hx350_2.symm.trans hx351_2)
       injection ea_ with ea_ en_ ec_
       subst ea_
       subst ec_
       clear en_
       go_wp2
       go_ret
       exact ⟨by first | rfl | (simp [yae_, yad_] <;> rfl) | (simp [*, yae_, yad_] <;> rfl), by repeat (first | (with_reducible first | exact HB.out | apply bA_ | apply bN_ | apply bD_) | exact HB.out)⟩
      ·rw [if_neg c5] at H
       have c5b0 : decide (1000 < ((rd_T112 l0 x3_1).f0)) = false := decide_eq_false c5
       clear c5
       replace H := Option.bind_eq_some_iff.mp H
       obtain ⟨t353, A60, H⟩ := H
       replace H : (if t353 < 0 then (some false) else (soriteslaw07_Fine.l0 k1 l0 (wrap64 (x3_1 + 1)))) = some r := H
       have A6 := Az_.mk A60
       clear A60
       by_cases c7 : t353 < 0
       ·rw [if_pos c7] at H
        have c7b0 : decide (t353 < 0) = true := decide_eq_true c7
        clear c7
        obtain rfl := Option.some.inj H
        have p350 : 0 ≤ (x3_1 : Int) := of_decide_eq_true (by first | (with_reducible assumption) | assumption)
        have q350 : x3_1 < (l0.length : Int) := of_decide_eq_true (by first | (with_reducible assumption) | assumption)
        obtain ⟨ad350, A350_2, c350_2, e350, hx350_0, hx350_1, hx350_2, hl350_2, hi350_2⟩ := at_T112 HR0.out x3_1 p350 q350
        cases e350
        replace hx350_0 := (HB.out.cell (World.block_lt_of_cell? w _ hx350_0)).trans hx350_0
        replace hx350_1 := (HB.out.cell (World.block_lt_of_cell? w _ hx350_1)).trans hx350_1
        replace hx350_2 := (HB.out.cell (World.block_lt_of_cell? w _ hx350_2)).trans hx350_2
        have HR350_2 := Az_.mk hi350_2
        have HC350_2 := Az_.mk hl350_2
        clear hi350_2 hl350_2
        replace p350 := eq_true p350
        replace q350 := eq_true q350
        have p351 : 0 ≤ (x3_1 : Int) := of_decide_eq_true (by first | (with_reducible assumption) | assumption)
        have q351 : x3_1 < (l0.length : Int) := of_decide_eq_true (by first | (with_reducible assumption) | assumption)
        obtain ⟨ad351, A351_2, c351_2, e351, hx351_0, hx351_1, hx351_2, hl351_2, hi351_2⟩ := at_T112 HR0.out x3_1 p351 q351
        obtain rfl : ad350 = ad351 := (by injection e351)
        replace hx351_0 := (HB.out.cell (World.block_lt_of_cell? w _ hx351_0)).trans hx351_0
        replace hx351_1 := (HB.out.cell (World.block_lt_of_cell? w _ hx351_1)).trans hx351_1
        replace hx351_2 := (HB.out.cell (World.block_lt_of_cell? w _ hx351_2)).trans hx351_2
        have HR351_2 := Az_.mk hi351_2
        have HC351_2 := Az_.mk hl351_2
        clear hi351_2 hl351_2
        replace p351 := eq_true p351
        replace q351 := eq_true q351
        have ea_ := Option.some.inj (hx350_2.symm.trans hx351_2)
        injection ea_ with ea_ en_ ec_
        subst ea_
        subst ec_
        clear en_
        have p352 : 0 ≤ (x3_1 : Int) := of_decide_eq_true (by first | (with_reducible assumption) | assumption)
        have q352 : x3_1 < (l0.length : Int) := of_decide_eq_true (by first | (with_reducible assumption) | assumption)
        obtain ⟨ad352, A352_2, c352_2, e352, hx352_0, hx352_1, hx352_2, hl352_2, hi352_2⟩ := at_T112 HR0.out x3_1 p352 q352
        obtain rfl : ad350 = ad352 := (by injection e352)
        replace hx352_0 := (HB.out.cell (World.block_lt_of_cell? w _ hx352_0)).trans hx352_0
        replace hx352_1 := (HB.out.cell (World.block_lt_of_cell? w _ hx352_1)).trans hx352_1
        replace hx352_2 := (HB.out.cell (World.block_lt_of_cell? w _ hx352_2)).trans hx352_2
        have HR352_2 := Az_.mk hi352_2
        have HC352_2 := Az_.mk hl352_2
        clear hi352_2 hl352_2
        replace p352 := eq_true p352
        replace q352 := eq_true q352
        have ea_ := Option.some.inj (hx350_2.symm.trans hx352_2)
        injection ea_ with ea_ en_ ec_
        subst ea_
        subst ec_
        clear en_
        go_wp2_with (first | (go_at_call 50; (with_reducible refine (soriteslaw06_Small.calls k1 ((rd_T112 l0 x3_1).f1.f0) _ _ ((rd_T112 l0 x3_1).f1.f1) 20 10 t353 _ ?side1 ?side2 A6.out).mono ?_); (case side1 => repeat (first | exact (Kd.C_below HR352_2.out HB.out) | (with_reducible refine Kd.C_alloc ?_ _) | (with_reducible refine Kd.C_drewN ?_ _) | (with_reducible refine Kd.C_drew ?_))); (case side2 => exact HC352_2.out); rintro e w8 ⟨rfl, hb⟩; have n0_ := Az_.mk (bT_ (by repeat (first | (with_reducible first | exact HB.out | apply bA_ | apply bN_ | apply bD_) | exact HB.out)) hb); clear HB; have HB := n0_; clear n0_; (try clear hb); (try clear hb2); (try clear hk); (try clear hi)))
        go_ret
        exact ⟨by first | rfl | (simp [yae_, yad_] <;> rfl) | (simp [*, yae_, yad_] <;> rfl), by repeat (first | (with_reducible first | exact HB.out | apply bA_ | apply bN_ | apply bD_) | exact HB.out)⟩
       ·rw [if_neg c7] at H
        have c7b0 : decide (t353 < 0) = false := decide_eq_false c7
        clear c7
        have H' := Az_.mk H
        clear H
        have p350 : 0 ≤ (x3_1 : Int) := of_decide_eq_true (by first | (with_reducible assumption) | assumption)
        have q350 : x3_1 < (l0.length : Int) := of_decide_eq_true (by first | (with_reducible assumption) | assumption)
        obtain ⟨ad350, A350_2, c350_2, e350, hx350_0, hx350_1, hx350_2, hl350_2, hi350_2⟩ := at_T112 HR0.out x3_1 p350 q350
        cases e350
        replace hx350_0 := (HB.out.cell (World.block_lt_of_cell? w _ hx350_0)).trans hx350_0
        replace hx350_1 := (HB.out.cell (World.block_lt_of_cell? w _ hx350_1)).trans hx350_1
        replace hx350_2 := (HB.out.cell (World.block_lt_of_cell? w _ hx350_2)).trans hx350_2
        have HR350_2 := Az_.mk hi350_2
        have HC350_2 := Az_.mk hl350_2
        clear hi350_2 hl350_2
        replace p350 := eq_true p350
        replace q350 := eq_true q350
        have p351 : 0 ≤ (x3_1 : Int) := of_decide_eq_true (by first | (with_reducible assumption) | assumption)
        have q351 : x3_1 < (l0.length : Int) := of_decide_eq_true (by first | (with_reducible assumption) | assumption)
        obtain ⟨ad351, A351_2, c351_2, e351, hx351_0, hx351_1, hx351_2, hl351_2, hi351_2⟩ := at_T112 HR0.out x3_1 p351 q351
        obtain rfl : ad350 = ad351 := (by injection e351)
        replace hx351_0 := (HB.out.cell (World.block_lt_of_cell? w _ hx351_0)).trans hx351_0
        replace hx351_1 := (HB.out.cell (World.block_lt_of_cell? w _ hx351_1)).trans hx351_1
        replace hx351_2 := (HB.out.cell (World.block_lt_of_cell? w _ hx351_2)).trans hx351_2
        have HR351_2 := Az_.mk hi351_2
        have HC351_2 := Az_.mk hl351_2
        clear hi351_2 hl351_2
        replace p351 := eq_true p351
        replace q351 := eq_true q351
        have ea_ := Option.some.inj (hx350_2.symm.trans hx351_2)
        injection ea_ with ea_ en_ ec_
        subst ea_
        subst ec_
        clear en_
        have p352 : 0 ≤ (x3_1 : Int) := of_decide_eq_true (by first | (with_reducible assumption) | assumption)
        have q352 : x3_1 < (l0.length : Int) := of_decide_eq_true (by first | (with_reducible assumption) | assumption)
        obtain ⟨ad352, A352_2, c352_2, e352, hx352_0, hx352_1, hx352_2, hl352_2, hi352_2⟩ := at_T112 HR0.out x3_1 p352 q352
        obtain rfl : ad350 = ad352 := (by injection e352)
        replace hx352_0 := (HB.out.cell (World.block_lt_of_cell? w _ hx352_0)).trans hx352_0
        replace hx352_1 := (HB.out.cell (World.block_lt_of_cell? w _ hx352_1)).trans hx352_1
        replace hx352_2 := (HB.out.cell (World.block_lt_of_cell? w _ hx352_2)).trans hx352_2
        have HR352_2 := Az_.mk hi352_2
        have HC352_2 := Az_.mk hl352_2
        clear hi352_2 hl352_2
        replace p352 := eq_true p352
        replace q352 := eq_true q352
        have ea_ := Option.some.inj (hx350_2.symm.trans hx352_2)
        injection ea_ with ea_ en_ ec_
        subst ea_
        subst ec_
        clear en_
        go_wp2_with (first | (go_at_call 50; (with_reducible refine (soriteslaw06_Small.calls k1 ((rd_T112 l0 x3_1).f1.f0) _ _ ((rd_T112 l0 x3_1).f1.f1) 20 10 t353 _ ?side1 ?side2 A6.out).mono ?_); (case side1 => repeat (first | exact (Kd.C_below HR352_2.out HB.out) | (with_reducible refine Kd.C_alloc ?_ _) | (with_reducible refine Kd.C_drewN ?_ _) | (with_reducible refine Kd.C_drew ?_))); (case side2 => exact HC352_2.out); rintro e w9 ⟨rfl, hb⟩; have n0_ := Az_.mk (bT_ (by repeat (first | (with_reducible first | exact HB.out | apply bA_ | apply bN_ | apply bD_) | exact HB.out)) hb); clear HB; have HB := n0_; clear n0_; (try clear hb); (try clear hb2); (try clear hk); (try clear hi)))
        go_roundg k1
        case measure => have := HK1.out; omega
        case rel => exact ⟨(wrap64 (x3_1 + 1)), (by first | rfl | (simp; done) | (simp [*]; done)), H', ⟨by have := HK1.out; omega⟩, ⟨by repeat (first | (with_reducible first | exact HB.out | apply bA_ | apply bN_ | apply bD_) | exact HB.out)⟩⟩
    ·rw [if_neg c3] at H
     exact absurd H (by simp)
   ·rw [if_neg c2] at H
    have c2b0 : decide (x3_1 < (l0.length : Int)) = false := decide_eq_false c2
    clear c2
    obtain rfl := Option.some.inj H
    go_wp2
    go_ret
    exact ⟨by first | rfl | (simp [yae_, yad_] <;> rfl) | (simp [*, yae_, yad_] <;> rfl), by repeat (first | (with_reducible first | exact HB.out | apply bA_ | apply bN_ | apply bD_) | exact HB.out)⟩
end
section
attribute [local go_sem] yaq_ yao_ max_two min_two yal_ yak_ yap_ yan_
def soriteslaw07_Of.l0 : Nat → List (S112) → List (S114) → Int → Option ((List (S114)))
 | 0, _, _, _ => none
 | k + 1, x0, x3, x4 => if x4 < (x0.length : Int) then (if 0 ≤ x4 then ((soriteslaw06_Of.f k ((rd_T112 x0 x4).f1.f0) ((rd_T112 x0 x4).f1.f1)).bind fun bt356 => (if x3.length < 3518437208883 then (soriteslaw07_Of.l0 k x0 (x3 ++ [(⟨(rd_T112 x0 x4).f0, (⟨bt356.1, bt356.2⟩ : S30)⟩ : S114)]) (wrap64 (x4 + 1))) else (none))) else (none)) else (some x3)
def soriteslaw07_Of.f (k : Nat) (l0 : List (S112)) : Option ((List (S114))) := soriteslaw07_Of.l0 k l0 ([] : List (S114)) 0
def soriteslaw07_Of.T5 : Bool × List (List Nat × List Nat) := (true, [([], []), ([], []), ([], []), ([1, 2], [1, 2]), ([3], [3]), ([4], [4]), ([], []), ([], []), ([6, 7], [6, 7]), ([8], [8]), ([9], [9]), ([10], [10]), ([5, 11], [5, 11]), ([12], [12]), ([0, 13, 11], [0, 13]), ([14, 14, 0, 1, 2, 3, 4, 5, 6, 7, 8, 9, 10, 11, 12, 13, 14], [0, 14])])
def soriteslaw07_Of.B5 : List Nat := [0, 0, 0, 6, 14, 30, 0, 0, 192, 448, 960, 1984, 4094, 8190, 16383, 32767]
theorem soriteslaw07_Of.tab5 : rtab .any (opsOf Try.f52 5) = soriteslaw07_Of.T5 := by kernel_rfl
theorem soriteslaw07_Of.bits5 : waitsOk soriteslaw07_Of.T5.2 soriteslaw07_Of.B5 = true := by kernel_rfl
set_option maxHeartbeats 8000000 in
set_option maxRecDepth 100000 in
theorem soriteslaw07_Of.calls (k : Nat) (A0 : Option Addr) (c0 : Nat) (l0 : List (S112)) (r : List (S114)) (w : World) (hr0 : Kd.C k112 w A0 l0.length l0) (hc0 : l0.length ≤ c0) (h : soriteslaw07_Of.f k l0 = some r) :
  Calls Try.prog 52 #[.slice A0 l0.length c0] w fun e w' => ∃ v0_ : Value, e = .returned (v0_) ∧ Kd.R k114 114 w' w.heap.size (fun _ => True) v0_ r ∧ Below w.heap.size w w' := by
 have hu24 := Try.underlying24
 have hu114 := Try.underlying114
 have HR0 := Az_.mk hr0
 have HC0 := Az_.mk hc0
 clear hr0 hc0
 have HB := Az_.mk (Below.refl w.heap.size w)
 have H : (soriteslaw07_Of.l0 k l0 ([] : List (S114)) 0) = some r := h
 clear h
 have H' := Az_.mk H
 clear H
 go_enter Try.func52, Try.ntmps52
 go_wp2
 go_loopg [3, 4] k (fun kq v3 v4 w' => ∃ (x3_1 : List (S114)) (x4_1 : Int), v4 = .int .i64 x4_1 ∧ Az_ (soriteslaw07_Of.l0 kq l0 x3_1 x4_1 = some r) ∧ Az_ (kq ≤ k) ∧ Az_ (Kd.R k114 114 w' w.heap.size (fun _ => True) v3 x3_1) ∧ Az_ (Below w.heap.size w w'))
 case atStart => exact ⟨(([] : List (S114))), (0), (by first | rfl | (simp; done) | (simp [*]; done)), H', ⟨Nat.le_refl _⟩, ⟨by first | exact Kd.R_nil _ _ _ _ _ | exact Kd.N_nil _ _ _ _ _ | exact Kd.V_nil _ _ _ _ _ | exact Kd.Q_nil _ _ _ _ _ | exact Kd.S_nil _ _ _ _ _⟩, ⟨by repeat (first | (with_reducible first | exact HB.out | apply bA_ | apply bN_ | apply bD_) | exact HB.out)⟩⟩
 case round =>
  clear H'
  obtain ⟨x3_1, x4_1, rfl, HA, HK1, HO_3, HB⟩ := hrel
  cases gk with
  | zero => exact absurd HA.out (by simp [soriteslaw07_Of.l0])
  | succ k1 =>
   have H := HA.out
   clear HA
   simp only [soriteslaw07_Of.l0] at H
   by_cases c2 : x4_1 < (l0.length : Int)
   ·rw [if_pos c2] at H
    have c2b0 : decide (x4_1 < (l0.length : Int)) = true := decide_eq_true c2
    clear c2
    by_cases c3 : 0 ≤ x4_1
    ·rw [if_pos c3] at H
     have c3b0 : decide (0 ≤ x4_1) = true := decide_eq_true c3
     clear c3
     replace H := Option.bind_eq_some_iff.mp H
     obtain ⟨⟨t356, t357⟩, A40, H⟩ := H
     replace H : (if x3_1.length < 3518437208883 then (soriteslaw07_Of.l0 k1 l0 (x3_1 ++ [(⟨(rd_T112 l0 x4_1).f0, (⟨t356, t357⟩ : S30)⟩ : S114)]) (wrap64 (x4_1 + 1))) else (none)) = some r := H
     have A4 := Az_.mk A40
     clear A40
     by_cases c5 : x3_1.length < 3518437208883
     ·rw [if_pos c5] at H
      have LMc5 := Az_.mk c5
      clear c5
      obtain ⟨y360, hy360⟩ : ∃ y_ : List (S114), y_ = (x3_1 ++ [(⟨(rd_T112 l0 x4_1).f0, (⟨t356, t357⟩ : S30)⟩ : S114)]) := ⟨_, rfl⟩
      replace H : (soriteslaw07_Of.l0 k1 l0 y360 (wrap64 (x4_1 + 1))) = some r := by first | (rw [hy360]; with_reducible exact H) | (have H2_ := (Option.bind_some _ _).symm.trans H; rw [hy360]; with_reducible exact H2_) | (have H2_ := (Option.bind_some _ _).symm.trans H; with_reducible exact H2_) | with_reducible exact H | (rw [hy360]; exact H) | exact H
      have Ny360 := Az_.mk hy360
      clear hy360
      have H' := Az_.mk H
      clear H
      try go_wp2
      have n0_ := Az_.mk (Kd.R_drew HO_3.out)
      have n1_ := Az_.mk (bD_ HB.out)
      clear HO_3
      clear HB
      have HO_3 := n0_
      have HB := n1_
      clear n0_ n1_
      have p354 : 0 ≤ (x4_1 : Int) := of_decide_eq_true (by first | (with_reducible assumption) | assumption)
      have q354 : x4_1 < (l0.length : Int) := of_decide_eq_true (by first | (with_reducible assumption) | assumption)
      obtain ⟨ad354, A354_2, c354_2, e354, hx354_0, hx354_1, hx354_2, hl354_2, hi354_2⟩ := at_T112 HR0.out x4_1 p354 q354
      have hw354_2 := hx354_2
      have hw354_1 := hx354_1
      have hw354_0 := hx354_0
      cases e354
      replace hx354_0 := (HB.out.cell (World.block_lt_of_cell? w _ hx354_0)).trans hx354_0
      replace hx354_1 := (HB.out.cell (World.block_lt_of_cell? w _ hx354_1)).trans hx354_1
      replace hx354_2 := (HB.out.cell (World.block_lt_of_cell? w _ hx354_2)).trans hx354_2
      have HR354_2 := Az_.mk hi354_2
      have HC354_2 := Az_.mk hl354_2
      clear hi354_2 hl354_2
      replace p354 := eq_true p354
      replace q354 := eq_true q354
      have p355 : 0 ≤ (x4_1 : Int) := of_decide_eq_true (by first | (with_reducible assumption) | assumption)
      have q355 : x4_1 < (l0.length : Int) := of_decide_eq_true (by first | (with_reducible assumption) | assumption)
      obtain ⟨ad355, A355_2, c355_2, e355, hx355_0, hx355_1, hx355_2, hl355_2, hi355_2⟩ := at_T112 HR0.out x4_1 p355 q355
      have hw355_2 := hx355_2
      have hw355_1 := hx355_1
      have hw355_0 := hx355_0
      obtain rfl : ad354 = ad355 := (by injection e355)
      replace hx355_0 := (HB.out.cell (World.block_lt_of_cell? w _ hx355_0)).trans hx355_0
      replace hx355_1 := (HB.out.cell (World.block_lt_of_cell? w _ hx355_1)).trans hx355_1
      replace hx355_2 := (HB.out.cell (World.block_lt_of_cell? w _ hx355_2)).trans hx355_2
      have HR355_2 := Az_.mk hi355_2
      have HC355_2 := Az_.mk hl355_2
      clear hi355_2 hl355_2
      replace p355 := eq_true p355
      replace q355 := eq_true q355
      have ea_ := Option.some.inj (hx354_2.symm.trans hx355_2)
      injection ea_ with ea_ en_ ec_
      subst ea_
      subst ec_
      clear en_
      refine start_ (n := 16) (S := fun w' => w'.cell? (ad354.add ((x4_1).toNat * 3)) = some (.int .i64 ((rd_T112 l0 x4_1).f0)) ∧ w'.cell? ⟨(ad354.add ((x4_1).toNat * 3)).block, (ad354.add ((x4_1).toNat * 3)).off + 1, none⟩ = some (.int .i64 ((rd_T112 l0 x4_1).f1.f0)) ∧ w'.cell? ⟨(ad354.add ((x4_1).toNat * 3)).block, (ad354.add ((x4_1).toNat * 3)).off + 2, none⟩ = some (.slice A354_2 ((rd_T112 l0 x4_1).f1.f1).length c354_2) ∧ w'.cell? (ad354.add ((x4_1).toNat * 3)) = some (.int .i64 ((rd_T112 l0 x4_1).f0)) ∧ w'.cell? ⟨(ad354.add ((x4_1).toNat * 3)).block, (ad354.add ((x4_1).toNat * 3)).off + 1, none⟩ = some (.int .i64 ((rd_T112 l0 x4_1).f1.f0)) ∧ w'.cell? ⟨(ad354.add ((x4_1).toNat * 3)).block, (ad354.add ((x4_1).toNat * 3)).off + 2, none⟩ = some (.slice A354_2 ((rd_T112 l0 x4_1).f1.f1).length c354_2)) (ds := []) #[false, false, false, false, false, false, false, false, false, false, false, false, false, false, false, false] (by kernel_rfl) rfl rfl ⟨((HB.out.cell (World.block_lt_of_cell? w _ hw354_0)).trans hw354_0), ((HB.out.cell (World.block_lt_of_cell? w _ hw354_1)).trans hw354_1), ((HB.out.cell (World.block_lt_of_cell? w _ hw354_2)).trans hw354_2), ((HB.out.cell (World.block_lt_of_cell? w _ hw355_0)).trans hw355_0), ((HB.out.cell (World.block_lt_of_cell? w _ hw355_1)).trans hw355_1), ((HB.out.cell (World.block_lt_of_cell? w _ hw355_2)).trans hw355_2)⟩ (fun hHeld => ?_); refine with_tabW soriteslaw07_Of.tab5 soriteslaw07_Of.bits5 (fun HT_ HW_ => ?_)
      generalize wr.drew = w6 at HO_3 HB HR354_2 HR355_2 hx354_0 hx354_1 hx354_2 hx355_0 hx355_1 hx355_2 hHeld ⊢
      refine pure_ (i := 0) (N := some 11) (v := ?_) (a' := ?_) #[true, false, false, false, false, false, false, false, false, false, false, false, false, false, false, false] rfl rfl (any_of HT_.out (by kernel_rfl)) (fun _ _ _ h => h) (Or.inl ⟨by rfl, ?_⟩) ?_ ?_
      rotate_left
      ·intro w'
       go_simp
       with_reducible rfl
      rotate_left
      ·simp only [Act.put, sA_, sZ_, sS_, i64_w, i32_w]
       rfl
      refine pure_ (i := 1) (N := some 12) (v := ?_) (a' := ?_) #[true, true, false, false, false, false, false, false, false, false, false, false, false, false, false, false] rfl rfl (any_of HT_.out (by kernel_rfl)) (fun _ _ _ h => h) (Or.inl ⟨by rfl, ?_⟩) ?_ ?_
      rotate_left
      ·intro w'
       go_simp
       with_reducible rfl
      rotate_left
      ·simp only [Act.put, sA_, sZ_, sS_, i64_w, i32_w]
       rfl
      refine pure_ (i := 2) (N := some 13) (v := ?_) (a' := ?_) #[true, true, true, false, false, false, false, false, false, false, false, false, false, false, false, false] rfl rfl (any_of HT_.out (by kernel_rfl)) (fun _ _ _ h => h) (Or.inl ⟨by rfl, ?_⟩) ?_ ?_
      rotate_left
      ·intro w'
       go_simp
       with_reducible rfl
      rotate_left
      ·simp only [Act.put, sA_, sZ_, sS_, i64_w, i32_w]
       rfl
      refine pure_ (i := 3) (N := some 14) (v := ?_) (a' := ?_) #[true, true, true, true, false, false, false, false, false, false, false, false, false, false, false, false] rfl rfl (any_of HT_.out (by kernel_rfl)) (fun _ _ _ h => h) (Or.inl ⟨by rfl, ?_⟩) ?_ ?_
      rotate_left
      ·intro w'
       go_simp
       with_reducible rfl
      rotate_left
      ·simp only [Act.put, sA_, sZ_, sS_, i64_w, i32_w]
       rfl
      refine pure_ (i := 4) (N := some 15) (v := ?_) (a' := ?_) #[true, true, true, true, true, false, false, false, false, false, false, false, false, false, false, false] rfl rfl (any_of HT_.out (by kernel_rfl)) (fun _ _ _ h => h) (Or.inl ⟨by rfl, ?_⟩) ?_ ?_
      rotate_left
      ·intro w'
       go_simp
       with_reducible rfl
      rotate_left
      ·simp only [Act.put, sA_, sZ_, sS_, i64_w, i32_w]
       rfl
      refine pure_ (i := 6) (N := some 17) (v := ?_) (a' := ?_) #[true, true, true, true, true, false, true, false, false, false, false, false, false, false, false, false] rfl rfl (any_of HT_.out (by kernel_rfl)) (fun _ _ _ h => h) (Or.inl ⟨by rfl, ?_⟩) ?_ ?_
      rotate_left
      ·intro w'
       go_simp
       with_reducible rfl
      rotate_left
      ·simp only [Act.put, sA_, sZ_, sS_, i64_w, i32_w]
       rfl
      refine pure_ (i := 7) (N := some 18) (v := ?_) (a' := ?_) #[true, true, true, true, true, false, true, true, false, false, false, false, false, false, false, false] rfl rfl (any_of HT_.out (by kernel_rfl)) (fun _ _ _ h => h) (Or.inl ⟨by rfl, ?_⟩) ?_ ?_
      rotate_left
      ·intro w'
       go_simp
       with_reducible rfl
      rotate_left
      ·simp only [Act.put, sA_, sZ_, sS_, i64_w, i32_w]
       rfl
      refine pure_ (i := 8) (N := some 19) (v := ?_) (a' := ?_) #[true, true, true, true, true, false, true, true, true, false, false, false, false, false, false, false] rfl rfl (any_of HT_.out (by kernel_rfl)) (fun _ _ _ h => h) (Or.inl ⟨by rfl, ?_⟩) ?_ ?_
      rotate_left
      ·intro w'
       go_simp
       with_reducible rfl
      rotate_left
      ·simp only [Act.put, sA_, sZ_, sS_, i64_w, i32_w]
       rfl
      refine pure_ (i := 9) (N := some 20) (v := ?_) (a' := ?_) #[true, true, true, true, true, false, true, true, true, true, false, false, false, false, false, false] rfl rfl (any_of HT_.out (by kernel_rfl)) (fun _ _ _ h => h) (Or.inl ⟨by rfl, ?_⟩) ?_ ?_
      rotate_left
      ·intro w'
       go_simp
       with_reducible rfl
      rotate_left
      ·simp only [Act.put, sA_, sZ_, sS_, i64_w, i32_w]
       rfl
      refine take_ (i := 5) (N := some 16) (v := ?_) (a' := ?_) #[true, true, true, true, true, true, true, true, true, true, false, false, false, false, false, false] rfl rfl (yam_ HT_.out HW_.out (by kernel_rfl)) (fun _ _ _ h => h) (Or.inl ⟨by rfl, ?_⟩) hHeld ?_ ?_
      rotate_left
      ·rintro w' ⟨s0, s1, s2, s3, s4, s5⟩
       go_simp
       with_reducible rfl
      rotate_left
      ·simp only [Act.put, sA_, sZ_, sS_, i64_w, i32_w]
       rfl
      refine take_ (i := 10) (N := some 21) (v := ?_) (a' := ?_) #[true, true, true, true, true, true, true, true, true, true, true, false, false, false, false, false] rfl rfl (yam_ HT_.out HW_.out (by kernel_rfl)) (fun _ _ _ h => h) (Or.inl ⟨by rfl, ?_⟩) hHeld ?_ ?_
      rotate_left
      ·rintro w' ⟨s0, s1, s2, s3, s4, s5⟩
       go_simp
       with_reducible rfl
      rotate_left
      ·simp only [Act.put, sA_, sZ_, sS_, i64_w, i32_w]
       rfl
      refine one_ (i := 11) (N := some 22) #[true, true, true, true, true, true, true, true, true, true, true, true, false, false, false, false] rfl rfl (one_of HT_.out (by kernel_rfl)) (by decide) (fun K hK => ?_)
      refine goes_ Try.func22 (by kernel_rfl) rfl #[.agg #[.int .i64 ((rd_T112 l0 x4_1).f1.f0), .slice A354_2 ((rd_T112 l0 x4_1).f1.f1).length c354_2]] (by rfl) rfl rfl (by (try simp only [List.map_toArray, List.map_cons, List.map_nil]); first | done | rfl | (simp only [List.length_drop, List.length_take]; rfl)) ?_
      with_reducible refine (soriteslaw06_Of.calls k1 ((rd_T112 l0 x4_1).f1.f0) _ _ ((rd_T112 l0 x4_1).f1.f1) t356 t357 _ ?side1 ?side2 A4.out).mono ?_
      (case side1 => repeat (first | exact (Kd.C_below HR355_2.out HB.out) | (with_reducible refine Kd.C_alloc ?_ _) | (with_reducible refine Kd.C_drewN ?_ _) | (with_reducible refine Kd.C_drew ?_)))
      (case side2 => exact HC355_2.out)
      rintro e w7 ⟨v358, rfl, ho0, hb⟩
      refine ⟨_, rfl, ?_⟩
      have n0_ := Az_.mk (Kd.R_elder' (by (with_reducible repeat (first | apply Kd.R_alloc | apply Kd.R_drewN | apply Kd.R_drew)); exact HO_3.out) (Kd.R_base ho0) hb)
      have n1_ := Az_.mk (Kd.R_lower ho0 (bZ_ (by repeat (first | (with_reducible first | exact HB.out | apply bA_ | apply bN_ | apply bD_) | exact HB.out))))
      have n2_ := Az_.mk (bT_ (by repeat (first | (with_reducible first | exact HB.out | apply bA_ | apply bN_ | apply bD_) | exact HB.out)) hb)
      clear HO_3
      clear HB
      have HO_3 := n0_
      have HO359 := n1_
      have HB := n2_
      clear n0_ n1_ n2_
      (try clear hb)
      (try clear hb2)
      (try clear hk)
      (try clear hi)
      (try clear ho0)
      obtain ⟨Ao8, co8, eo8⟩ := Kd.R_slice HO359.out
      (first | subst eo8 | (injection eo8 with f1_ f2_ f3_; have f4_ := f1_.symm; have f5_ := f3_.symm; clear f1_ f2_ f3_; subst f4_; subst f5_))
      refine hK.out _ _ ⟨((HB.out.cell (World.block_lt_of_cell? w _ hw354_0)).trans hw354_0), ((HB.out.cell (World.block_lt_of_cell? w _ hw354_1)).trans hw354_1), ((HB.out.cell (World.block_lt_of_cell? w _ hw354_2)).trans hw354_2), ((HB.out.cell (World.block_lt_of_cell? w _ hw355_0)).trans hw355_0), ((HB.out.cell (World.block_lt_of_cell? w _ hw355_1)).trans hw355_1), ((HB.out.cell (World.block_lt_of_cell? w _ hw355_2)).trans hw355_2)⟩ (fun hHeld => ?_)
      clear hK K
      refine norm_ (a' := ?_) ?_ ?_
      rotate_left
      ·show Act.put _ (some 22) _ = _
       simp only [Act.put, sA_, sZ_, sS_, i64_w, i32_w]
       rfl
      refine pure_ (i := 12) (N := some 23) (v := ?_) (a' := ?_) #[true, true, true, true, true, true, true, true, true, true, true, true, true, false, false, false] rfl rfl (any_of HT_.out (by kernel_rfl)) (fun _ _ _ h => h) (Or.inl ⟨by rfl, ?_⟩) ?_ ?_
      rotate_left
      ·intro w'
       go_simp
       with_reducible rfl
      rotate_left
      ·simp only [Act.put, sA_, sZ_, sS_, i64_w, i32_w]
       rfl
      refine one_ (i := 13) (N := some 24) #[true, true, true, true, true, true, true, true, true, true, true, true, true, true, false, false] rfl rfl (one_of HT_.out (by kernel_rfl)) (by decide) (fun K hK => ?_)
      refine value_ (w1 := ?_) (v := ?_) (by rfl) rfl ?_ ?_
      rotate_left 2
      ·go_simp
       constructor
       ·rfl
       ·rfl
      refine hK.out _ _ ⟨(World.cell?_alloc_lt _ _ _ (World.block_lt_of_cell? _ _ (((HB.out.cell (World.block_lt_of_cell? w _ hw354_0)).trans hw354_0)))).trans (((HB.out.cell (World.block_lt_of_cell? w _ hw354_0)).trans hw354_0)), (World.cell?_alloc_lt _ _ _ (World.block_lt_of_cell? _ _ (((HB.out.cell (World.block_lt_of_cell? w _ hw354_1)).trans hw354_1)))).trans (((HB.out.cell (World.block_lt_of_cell? w _ hw354_1)).trans hw354_1)), (World.cell?_alloc_lt _ _ _ (World.block_lt_of_cell? _ _ (((HB.out.cell (World.block_lt_of_cell? w _ hw354_2)).trans hw354_2)))).trans (((HB.out.cell (World.block_lt_of_cell? w _ hw354_2)).trans hw354_2)), (World.cell?_alloc_lt _ _ _ (World.block_lt_of_cell? _ _ (((HB.out.cell (World.block_lt_of_cell? w _ hw355_0)).trans hw355_0)))).trans (((HB.out.cell (World.block_lt_of_cell? w _ hw355_0)).trans hw355_0)), (World.cell?_alloc_lt _ _ _ (World.block_lt_of_cell? _ _ (((HB.out.cell (World.block_lt_of_cell? w _ hw355_1)).trans hw355_1)))).trans (((HB.out.cell (World.block_lt_of_cell? w _ hw355_1)).trans hw355_1)), (World.cell?_alloc_lt _ _ _ (World.block_lt_of_cell? _ _ (((HB.out.cell (World.block_lt_of_cell? w _ hw355_2)).trans hw355_2)))).trans (((HB.out.cell (World.block_lt_of_cell? w _ hw355_2)).trans hw355_2))⟩ (fun hHeld => ?_)
      clear hK K
      refine norm_ (a' := ?_) ?_ ?_
      rotate_left
      ·show Act.put _ (some 24) _ = _
       simp only [Act.put, sA_, sZ_, sS_, i64_w, i32_w]
       rfl
      refine one_ (i := 14) (N := some 25) #[true, true, true, true, true, true, true, true, true, true, true, true, true, true, true, false] rfl rfl (one_of HT_.out (by kernel_rfl)) (by decide) (fun K hK => ?_)
      refine Kd.R_append_step k114 (w0 := w) w.heap.size (by rfl) (.tmp 11) (.tmp 24) 62 114 (.agg #[(.int .i64 0), (.int .i64 0), (.slice none 0 0)]) 40 rfl Try.underlying62 info114 rfl (by decide) (by omega) u3 x3_1 (⟨(rd_T112 l0 x4_1).f0, (⟨t356, t357⟩ : S30)⟩ : S114) [.int .i64 ((rd_T112 l0 x4_1).f0), .int .i64 t356, .slice Ao8 t357.length co8] (fun _ => True) (fun k_ => ((fun _ => True)) k_ ∧ some k_ ≠ (u3 : Value).ownBlock) rfl rfl ?aP (fun _ hk => hk) ?aF ?aO ?aB ?aS ?aL ?_
      (case aP => exact k114_mkM _ _ _ (⟨(rd_T112 l0 x4_1).f0, (⟨t356, t357⟩ : S30)⟩ : S114) (Kd.R_mono (Kd.R_apart' (HO359.out) (Kd.R_typed HO_3.out) (by decide)) (fun k_ hk => ⟨trivial, hk.2⟩)))
      (case aB => exact (by repeat (first | (with_reducible first | exact HB.out | apply bA_ | apply bN_ | apply bD_) | exact HB.out)))
      (case aF => exact (fun _ _ => trivial))
      (case aO => exact (by (with_reducible repeat (first | apply Kd.R_alloc | apply Kd.R_drewN | apply Kd.R_drew)); exact Kd.R_mono HO_3.out (fun _ hk => trivial)))
      (case aS => exact (bZ_ (by repeat (first | (with_reducible first | exact HB.out | apply bA_ | apply bN_ | apply bD_) | exact HB.out))))
      (case aL => have := LMc5.out; omega)
      intro v361 w9 ho hb hg hat
      rw [← Ny360.out] at ho
      have n0_ := Az_.mk (hb)
      have n1_ := Az_.mk (ho)
      clear HB
      clear HO_3
      clear HO359
      have HB := n0_
      have HO362 := n1_
      clear n0_ n1_
      clear ho hb hg hat
      refine hK.out _ _ ⟨((HB.out.cell (World.block_lt_of_cell? w _ hw354_0)).trans hw354_0), ((HB.out.cell (World.block_lt_of_cell? w _ hw354_1)).trans hw354_1), ((HB.out.cell (World.block_lt_of_cell? w _ hw354_2)).trans hw354_2), ((HB.out.cell (World.block_lt_of_cell? w _ hw355_0)).trans hw355_0), ((HB.out.cell (World.block_lt_of_cell? w _ hw355_1)).trans hw355_1), ((HB.out.cell (World.block_lt_of_cell? w _ hw355_2)).trans hw355_2)⟩ (fun hHeld => ?_)
      clear hK K
      refine norm_ (a' := ?_) ?_ ?_
      rotate_left
      ·show Act.put _ (some 25) _ = _
       simp only [Act.put, sA_, sZ_, sS_, i64_w, i32_w]
       rfl
      refine pure_ (i := 15) (N := some 3) (v := ?_) (a' := ?_) #[true, true, true, true, true, true, true, true, true, true, true, true, true, true, true, true] rfl rfl (any_of HT_.out (by kernel_rfl)) (fun _ _ _ h => h) (Or.inl ⟨by rfl, ?_⟩) ?_ ?_
      rotate_left
      ·intro w'
       go_simp
       with_reducible rfl
      rotate_left
      ·simp only [Act.put, sA_, sZ_, sS_, i64_w, i32_w]
       rfl
      refine done_ (done_of HT_.out (by kernel_rfl)) ?_
      try go_wp2
      go_roundg k1
      case measure => have := HK1.out; omega
      case rel => exact ⟨(y360), (wrap64 (x4_1 + 1)), (by first | rfl | (simp; done) | (simp [*]; done)), H', ⟨by have := HK1.out; omega⟩, ⟨by (with_reducible repeat (first | apply Kd.R_alloc | apply Kd.R_drewN | apply Kd.R_drew)); exact HO362.out⟩, ⟨by repeat (first | (with_reducible first | exact HB.out | apply bA_ | apply bN_ | apply bD_) | exact HB.out)⟩⟩
     ·rw [if_neg c5] at H
      exact absurd H (by simp)
    ·rw [if_neg c3] at H
     exact absurd H (by simp)
   ·rw [if_neg c2] at H
    have c2b0 : decide (x4_1 < (l0.length : Int)) = false := decide_eq_false c2
    clear c2
    obtain rfl := Option.some.inj H
    go_wp2
    go_ret
    exact ⟨_, by first | rfl | (simp [yae_, yad_] <;> rfl) | (simp [*, yae_, yad_] <;> rfl), by (with_reducible repeat (first | apply Kd.R_alloc | apply Kd.R_drewN | apply Kd.R_drew)); exact HO_3.out, by repeat (first | (with_reducible first | exact HB.out | apply bA_ | apply bN_ | apply bD_) | exact HB.out)⟩
end
section
set_option maxHeartbeats 4000000 in
set_option maxRecDepth 100000 in
theorem subst_Apply.calls (k : Nat) (A1 : Option Addr) (c1 : Nat) (l1 : List S114) (a0_0 : Int) (A0_1 : Option Addr) (c0_1 : Nat) (l0_1 : List (S30)) (r1 : Int) (r2 : List (S30)) (w : World) (hr1 : Kd.C k114 w A1 l1.length l1) (hc1 : l1.length ≤ c1) (hr : Kd.C k30 w A0_1 l0_1.length l0_1) (hc : l0_1.length ≤ c0_1) (h : subst_mappedA.f k a0_0 l0_1 l1 = some (r1, r2)) :
  Calls Try.prog 53 #[.slice A1 l1.length c1, .agg #[.int .i64 a0_0, .slice A0_1 l0_1.length c0_1]] w fun e w' => ∃ v1_ : Value, e = .returned (.agg #[.int .i64 r1, v1_]) ∧ Kd.R k30 30 w' w.heap.size (fun _ => True) v1_ r2 ∧ Below w.heap.size w w' := by
 obtain ⟨w1, hw1⟩ : ∃ w1, w1 = w.alloc (.cells #[.slice A1 l1.length c1] 62) := ⟨_, rfl⟩
 obtain ⟨w2, hw2⟩ : ∃ w2, w2 = w1.alloc (.cells #[.int .i64 a0_0, .slice A0_1 l0_1.length c0_1] 30) := ⟨_, rfl⟩
 obtain ⟨w3, hw3⟩ : ∃ w3, w3 = w2.alloc (.cells #[.int .i64 0, .slice none 0 0] 30) := ⟨_, rfl⟩
 have hs1 : w1.heap.size = w.heap.size + 1 := by rw [hw1, World.size_alloc]
 have hs2 : w2.heap.size = w.heap.size + 1 + 1 := by rw [hw2, World.size_alloc, hs1]
 have hs3 : w3.heap.size = w.heap.size + 1 + 1 + 1 := by rw [hw3, World.size_alloc, hs2]
 have b1 : Below w.heap.size w w1 := by rw [hw1]; exact bA_ (Below.refl _ _) _
 have b2 : Below w.heap.size w w2 := by rw [hw2]; exact bA_ b1 _
 have b3 : Below w.heap.size w w3 := by rw [hw3]; exact bA_ b2 _
 have k2 : w3.heap[w.heap.size]? = some (.cells #[.slice A1 l1.length c1] 62 (0, 0)) := by rw [hw3, hw2]; refine kA_ (kA_ ?_ _) _; rw [hw1]; exact heap_alloc_new w _
 have k3 : w3.heap[w.heap.size + 1 + 1]? = some (.cells #[.int .i64 0, .slice none 0 0] 30 (0, 0)) := by rw [hw3, ← hs2]; exact heap_alloc_new w2 _
 have hcall := Az_.mk (subst_mappedA.calls w.heap.size k a0_0 A0_1 c0_1 l0_1 A1 c1 l1 r1 r2 w3 (Kd.C_below hr b3) hc (Kd.C_below hr1 b3) hc1 k2 h)
 have K3 := Az_.mk k3
 have B3 := Az_.mk b3
 have S3 := Az_.mk hs3
 have HW : Az_ (w3 = ((w.alloc (.cells #[.slice A1 l1.length c1] 62)).alloc (.cells #[.int .i64 a0_0, .slice A0_1 l0_1.length c0_1] 30)).alloc (.cells #[.int .i64 0, .slice none 0 0] 30)) := ⟨by rw [hw3, hw2, hw1]⟩
 clear hw1 hw2 hw3 hs1 hs2 hs3 b1 b2 b3 k2 k3 hr hr1 h
 have z0 := yab_ K3.out 0
 go_enter Try.func53, Try.ntmps53
 go_wp2_with (go_at_call 81; rw [← HW.out]; refine hcall.out.mono ?_; rintro e w4 ⟨v1, rfl, hR, hb⟩; obtain ⟨A1, c1, hv⟩ := Kd.R_slice hR; subst hv; have hbx := kB_ K3.out hb; have y0 : w4.cell? ⟨w.heap.size + 1 + 1, 0, none⟩ = some (.int .i64 0) := (yaa_ hbx 0).trans rfl; have y1 : w4.cell? ⟨w.heap.size + 1 + 1, 1, none⟩ = some (.slice none 0 0) := (yaa_ hbx 1).trans rfl; have x0 := yab_ hbx 0; have x1 := yab_ hbx 1)
 refine bodyPost_ret (results_cell_row rfl _ _ (w.heap.size + 1 + 1) 30 #[.int .i64 r1, .slice A1 r2.length c1] (0, 0) _ rfl ((blk_set (blk_set hbx 0 _) 1 _).trans rfl) Try.underlying30 rfl (by kernel_rfl)) rfl ?_
 have hR2 := Kd.R_lower (Kd.R_newB hR (g := w.heap.size + 1 + 1) K3.out) (by have := S3.out; omega : w.heap.size ≤ w3.heap.size)
 refine ⟨_, rfl, Kd.R_mono (Kd.R_far (p := ⟨w.heap.size + 1 + 1, 1, none⟩) (Kd.R_far (p := ⟨w.heap.size + 1 + 1, 0, none⟩) (Kd.R_mono hR2 (fun k_ hk => (⟨hk, hk.2⟩ : _ ∧ k_ ≠ w.heap.size + 1 + 1))) (fun _ hk => hk.2) _) (fun _ hk => hk.2) _) (fun _ _ => trivial), below_set2 (B3.out.trans (hb.mono (by have := S3.out; omega))) (by omega)⟩
def okB (b : S112) : Prop := 0 ≤ b.f0 ∧ b.f0 ≤ 1000 ∧ ok b.f1 ∧ wt b.f1 ≤ 20
theorem rd112_at (l : List S112) (k : Nat) (h : k < l.length) : rd_T112 l (k : Int) = l[k] := by
 unfold rd_T112
 simp [List.getD, List.getElem?_eq_getElem h]
theorem rd114_at (l : List S114) (k : Nat) (h : k < l.length) : rd_T114 l (k : Int) = l[k] := by
 unfold rd_T114
 simp [List.getD, List.getElem?_eq_getElem h]
theorem Fine07_spec (l : List S112) (hl : l.length ≤ 9223372036854775807) : ∃ r, Ev (fun k => soriteslaw07_Fine.f k l) r ∧ (r = true → l.length ≤ 8 ∧ ∀ b ∈ l, okB b) := by
 have hloop : ∀ (m i : Nat), l.length - i = m → i ≤ l.length → (∀ b ∈ l.take i, okB b) → ∃ r, Ev (fun k => soriteslaw07_Fine.l0 k l (i : Int)) r ∧ (r = true → l.length ≤ 8 ∧ ∀ b ∈ l, okB b) := by
  intro m
  induction m with
  | zero =>
   intro i hi hle hq
   refine ⟨decide ((l.length : Int) ≤ 8), Ev.step (f := fun _ => some (decide ((l.length : Int) ≤ 8))) (fun k => ?_) (Ev.now _), fun h => ?_⟩
   ·rw [soriteslaw07_Fine.l0, if_neg (by omega)]
   ·rw [List.take_of_length_le (by omega)] at hq
    have := of_decide_eq_true h
    exact ⟨by omega, hq⟩
  | succ m ihm =>
   intro i hi hle hq
   have hlt : i < l.length := by omega
   have hw : wrap64 ((i : Int) + 1) = ((i + 1 : Nat) : Int) := by rw [w64 _ (by omega)]; omega
   obtain ⟨r1, he, _, _, hr⟩ := Small_spec 11 l[i].f1 20 10 (by omega) (by omega) (by omega) (by omega)
   by_cases h1 : l[i].f0 < 0
   ·refine ⟨false, Ev.step (f := fun _ => some false) (fun k => ?_) (Ev.now _), fun h => by cases h⟩
    rw [soriteslaw07_Fine.l0, if_pos (by omega), if_pos (by omega), rd112_at l i hlt, if_pos h1]
   by_cases h2 : l[i].f0 > 1000
   ·refine ⟨false, Ev.step (f := fun _ => some false) (fun k => ?_) (Ev.now _), fun h => by cases h⟩
    rw [soriteslaw07_Fine.l0, if_pos (by omega), if_pos (by omega), rd112_at l i hlt, if_neg h1, if_pos h2]
   by_cases h0 : r1 < 0
   ·refine ⟨false, Ev.step (f := fun k => (soriteslaw06_Small.f k l[i].f1.f0 l[i].f1.f1 20 10).bind fun t => if t < 0 then some false else soriteslaw07_Fine.l0 k l ((i + 1 : Nat) : Int)) (fun k => ?_) (Ev.bind he ?_), fun h => by cases h⟩
    ·rw [soriteslaw07_Fine.l0, if_pos (by omega), if_pos (by omega), rd112_at l i hlt, if_neg h1, if_neg h2, hw]
    ·simp only [if_pos h0]
     exact Ev.now _
   ·obtain ⟨r, he2, h3⟩ := ihm (i + 1) (by omega) (by omega) (fun t ht => by
     rw [List.take_succ_eq_append_getElem hlt] at ht
     rcases List.mem_append.1 ht with ht | ht
     ·exact hq t ht
     ·rw [List.mem_singleton] at ht
      have := hr (by omega)
      subst ht
      exact ⟨by omega, by omega, this.1, by omega⟩)
    refine ⟨r, Ev.step (f := fun k => (soriteslaw06_Small.f k l[i].f1.f0 l[i].f1.f1 20 10).bind fun t => if t < 0 then some false else soriteslaw07_Fine.l0 k l ((i + 1 : Nat) : Int)) (fun k => ?_) (Ev.bind he ?_), h3⟩
    ·rw [soriteslaw07_Fine.l0, if_pos (by omega), if_pos (by omega), rd112_at l i hlt, if_neg h1, if_neg h2, hw]
    ·simp only [if_neg h0]
     exact he2
 obtain ⟨r, he, h⟩ := hloop l.length 0 rfl (by omega) (fun t ht => by simp at ht)
 exact ⟨r, he, h⟩
def toB (b : S112) : S114 := ⟨b.f0, b.f1⟩
theorem Of07_spec (l : List S112) (hl : l.length ≤ 1000) (hok : ∀ b ∈ l, ok b.f1) : Ev (fun k => soriteslaw07_Of.f k l) (l.map toB) := by
 have hloop : ∀ (m i : Nat), l.length - i = m → i ≤ l.length → Ev (fun k => soriteslaw07_Of.l0 k l ((l.take i).map toB) (i : Int)) (l.map toB) := by
  intro m
  induction m with
  | zero =>
   intro i hi hle
   refine Ev.step (f := fun _ => some (l.map toB)) (fun k => ?_) (Ev.now _)
   rw [soriteslaw07_Of.l0, if_neg (by omega), List.take_of_length_le (by omega)]
  | succ m ihm =>
   intro i hi hle
   have hlt : i < l.length := by omega
   refine Ev.step (f := fun k => (soriteslaw06_Of.f k l[i].f1.f0 l[i].f1.f1).bind fun t => if ((l.take i).map toB).length < 3518437208883 then soriteslaw07_Of.l0 k l ((l.take i).map toB ++ [(⟨l[i].f0, (⟨t.1, t.2⟩ : S30)⟩ : S114)]) ((i + 1 : Nat) : Int) else none) (fun k => ?_) (Ev.bind (Of_spec l[i].f1 (hok _ (List.getElem_mem hlt))) ?_)
   ·rw [soriteslaw07_Of.l0, if_pos (by omega), if_pos (by omega), rd112_at l i hlt, show wrap64 ((i : Int) + 1) = ((i + 1 : Nat) : Int) from by rw [w64 _ (by omega)]; omega]
   ·simp only [List.length_map, List.length_take]
    simp only [if_pos (show min i l.length < 3518437208883 by omega)]
    have := ihm (i + 1) (by omega) (by omega)
    rw [List.take_succ_eq_append_getElem hlt, List.map_append] at this
    simp only [S30.eta]
    exact this
 exact hloop l.length 0 rfl (by omega)
def getB : List S114 → Int → Option S30
 | [], _ => none
 | b :: r, v => if b.f0 = v then some b.f1 else getB r v
theorem getB_mem : ∀ (l : List S114) (v : Int) (t : S30), getB l v = some t → ∃ b ∈ l, b.f1 = t
 | [], _, _, h => by cases h
 | b :: r, v, t, h => by
  rw [getB] at h
  split at h
  ·injection h with h; exact ⟨b, by simp, h⟩
  ·obtain ⟨b', h1, h2⟩ := getB_mem r v t h
   exact ⟨b', by simp [h1], h2⟩
def getR (o : Option S30) : Int × List S30 × Bool := match o with
 | some t => (t.f0, t.f1, true)
 | none => (0, [], false)
theorem Get_spec (l : List S114) (hl : l.length ≤ 1000) (v : Int) : Ev (fun k => subst_S_Get.f k l v) (getR (getB l v)) := by
 have hloop : ∀ (m i : Nat), l.length - i = m → i ≤ l.length → Ev (fun k => subst_S_Get.l0 k v l (l.length : Int) (i : Int)) (getR (getB (l.drop i) v)) := by
  intro m
  induction m with
  | zero =>
   intro i hi hle
   refine Ev.step (f := fun _ => some (0, [], false)) (fun k => ?_) ?_
   ·rw [subst_S_Get.l0, if_neg (by omega)]
   ·rw [List.drop_of_length_le (by omega)]; exact Ev.now _
  | succ m ihm =>
   intro i hi hle
   have hlt : i < l.length := by omega
   rw [List.drop_eq_getElem_cons hlt, getB]
   by_cases h : l[i].f0 = v
   ·rw [if_pos h]
    refine Ev.step (f := fun _ => some (l[i].f1.f0, l[i].f1.f1, true)) (fun k => ?_) (Ev.now _)
    rw [subst_S_Get.l0, if_pos (by omega), if_pos (by omega), if_pos (by omega), rd114_at l i hlt, if_pos h]
   ·rw [if_neg h]
    refine Ev.step (f := fun k => subst_S_Get.l0 k v l (l.length : Int) ((i + 1 : Nat) : Int)) (fun k => ?_) (ihm (i + 1) (by omega) (by omega))
    rw [subst_S_Get.l0, if_pos (by omega), if_pos (by omega), if_pos (by omega), rd114_at l i hlt, if_neg h, show wrap64 ((i : Int) + 1) = ((i + 1 : Nat) : Int) from by rw [w64 _ (by omega)]; omega]
 exact hloop l.length 0 rfl (by omega)
def appG (l : List S114) (f : Int) : S30 := match getB l (-1 - f) with
 | some t => cloneT t
 | none => ⟨f, []⟩
theorem Apply1_spec (l : List S114) (hl : l.length ≤ 1000) (hok : ∀ b ∈ l, ok b.f1) (f : Int) (hf : -1000000 ≤ f ∧ f < 0) : Ev (fun k => subst_S_Apply_1.f k (-1 - f) l) ((appG l f).f0, (appG l f).f1) := by
 refine Ev.bind (Get_spec l hl (-1 - f)) ?_
 unfold appG
 cases h : getB l (-1 - f) with
 | none =>
  show Ev (fun k => some (wrap64 (-1 - (-1 - f)), ([] : List S30))) (f, [])
  rw [w64 _ (by omega), show -1 - (-1 - f) = f by omega]
  exact Ev.now _
 | some t =>
  obtain ⟨b, hb, rfl⟩ := getB_mem l _ t h
  exact Ev.bind (Clone_spec b.f1 (hok b hb)) (Ev.now _)
theorem Apply_spec (s : List S114) (hs : s.length ≤ 1000) (hok : ∀ b ∈ s, ok b.f1) : ∀ t : S30, fit t → Ev (fun k => subst_mappedA.f k t.f0 t.f1 s) ((mapT (appG s) t).f0, (mapT (appG s) t).f1) := by
 refine S30.ind ?_
 intro f l ih hfit
 have hn := fit_num hfit
 have hn1 : -1000000 ≤ f ∧ f ≤ 1000000 := hn
 by_cases hf : f < 0
 ·refine Ev.step (f := fun k => (subst_S_Apply_1.f k (-1 - f) s).bind fun t => some (t.1, t.2)) (fun k => ?_) ?_
  ·rw [subst_mappedA.f, if_pos hf, w64 _ (by omega)]
  ·simp only [mapT, hf, if_true]
   exact Ev.bind (Apply1_spec s hs hok f ⟨hn1.1, hf⟩) (Ev.now _)
 ·obtain ⟨hll, hsub⟩ := fit_sub hf hfit
  simp only [mapT, hf, if_false]
  refine Ev.step (f := fun k => subst_mappedA.l0 k s l (l.length : Int) ((0 : Nat) : Int) f []) (fun k => by rw [subst_mappedA.f, if_neg hf]; rfl) ?_
  have key : ∀ n i, l.length - i = n → i ≤ l.length → Ev (fun k => subst_mappedA.l0 k s l (l.length : Int) (i : Int) f ((l.take i).map (mapT (appG s)))) (f, mapTs (appG s) l) := by
   intro n
   induction n with
   | zero =>
    intro i hi hle
    refine Ev.step (f := fun _ => some (f, l.map (mapT (appG s)))) (fun k => by rw [subst_mappedA.l0, if_neg (by omega), List.take_of_length_le (by omega)]) ?_
    rw [mapTs_eq]; exact Ev.now _
   | succ n ihn =>
    intro i hi hle
    have hlt : i < l.length := by omega
    have hmem := List.getElem_mem hlt
    refine Ev.step (f := fun k => (subst_mappedA.f k l[i].f0 l[i].f1 s).bind fun t => if ((l.take i).map (mapT (appG s))).length < 4398046511104 then subst_mappedA.l0 k s l (l.length : Int) ((i + 1 : Nat) : Int) f ((l.take i).map (mapT (appG s)) ++ [(⟨t.1, t.2⟩ : S30)]) else none) (fun k => ?_) (Ev.bind (ih l[i] hmem (hsub _ hmem)) ?_)
    ·rw [subst_mappedA.l0, if_pos (by omega), if_pos (by omega), if_pos (by omega), rdC_at l i hlt, wsucc i l.length hlt (by omega)]
    ·simp only [List.length_map, List.length_take]
     simp only [if_pos (show min i l.length < 4398046511104 by omega)]
     have := ihn (i + 1) (by omega) (by omega)
     rw [List.take_succ_eq_append_getElem hlt, List.map_append] at this
     simp only [S30.eta]
     exact this
  have := key l.length 0 rfl (by omega)
  simpa using this
theorem map_fit (g : Int → S30) (m : Nat) (hg : ∀ f, f < 0 → -1000 ≤ f → (nodes (g f)).length ≤ m ∧ SmallN (g f)) : ∀ t : S30, (∀ x ∈ nodes t, -1000 ≤ x.f0 ∧ x.f0 ≤ 1000) → (nodes t).length * (m + 1) ≤ 1000000 → fit (mapT g t) := by
 have key : ∀ t : S30, (∀ x ∈ nodes t, -1000 ≤ x.f0 ∧ x.f0 ≤ 1000) → (nodes (mapT g t)).length ≤ (nodes t).length * (m + 1) ∧ SmallN (mapT g t) := by
  refine S30.ind ?_
  intro f l ih hx
  have h0 := hx ⟨f, l⟩ (by simp [nodes])
  have h0' : -1000 ≤ f ∧ f ≤ 1000 := h0
  by_cases hf : f < 0
  ·have hn : (nodes ⟨f, l⟩).length = 1 := by simp [nodes, hf]
   simp only [mapT, hf, if_true]
   obtain ⟨h1, h2⟩ := hg f hf h0'.1
   rw [hn]
   exact ⟨by omega, h2⟩
  ·have hn : ∀ m : List S30, nodes ⟨f, m⟩ = ⟨f, m⟩ :: nodess m := fun m => by simp [nodes, hf]
   simp only [mapT, hf, if_false]
   have key : ∀ l : List S30, (∀ x ∈ l, (nodes (mapT g x)).length ≤ (nodes x).length * (m + 1) ∧ SmallN (mapT g x)) → (nodess (mapTs g l)).length ≤ (nodess l).length * (m + 1) ∧ ∀ y ∈ nodess (mapTs g l), -1000000 ≤ y.f0 ∧ y.f0 ≤ 1000000 := by
    intro l
    induction l with
    | nil => intro _; rw [mapTs, nodess]; exact ⟨Nat.zero_le _, fun y hy => by cases hy⟩
    | cons x l ihl =>
     intro h
     obtain ⟨h1, h2⟩ := h x (by simp)
     obtain ⟨h3, h4⟩ := ihl (fun x hx => h x (by simp [hx]))
     rw [mapTs, nodess, nodess, List.length_append, List.length_append, Nat.add_mul]
     refine ⟨by omega, fun y hy => ?_⟩
     rcases List.mem_append.1 hy with hy | hy
     ·exact h2 y hy
     ·exact h4 y hy
   obtain ⟨h1, h2⟩ := key l (fun x hxl => ih x hxl (fun z hz => hx z (by rw [hn]; exact List.mem_cons_of_mem _ (nodess_mem hxl hz))))
   have hl1 : (nodes ⟨f, mapTs (g) l⟩).length = (nodess (mapTs (g) l)).length + 1 := by rw [hn, List.length_cons]
   have hl2 : (nodes ⟨f, l⟩).length = (nodess l).length + 1 := by rw [hn, List.length_cons]
   rw [hl1, hl2, Nat.add_mul]
   refine ⟨by omega, fun y hy => ?_⟩
   rw [hn] at hy
   rcases List.mem_cons.1 hy with rfl | hy
   ·show -1000000 ≤ f ∧ f ≤ 1000000
    omega
   ·exact h2 y hy
 intro t hx hl
 obtain ⟨h1, h2⟩ := key t hx
 exact ⟨by omega, h2⟩
theorem nums_ok : ∀ t : S30, ok t → ∀ x ∈ nodes t, -1000 ≤ x.f0 ∧ x.f0 ≤ 1000 := by
 refine S30.ind ?_
 intro f l ih h
 obtain ⟨h1, h2, h3, h4⟩ := h
 have hl : ∀ y ∈ nodess l, -1000 ≤ y.f0 ∧ y.f0 ≤ 1000 := by
  have := oks_mem h4
  clear h1 h2 h3 h4
  induction l with
  | nil => intro y hy; cases hy
  | cons x l ihl =>
   intro y hy
   rw [nodess, List.mem_append] at hy
   rcases hy with hy | hy
   ·exact ih x (by simp) (this x (by simp)) y hy
   ·exact ihl (fun x hx => ih x (by simp [hx])) (fun x hx => this x (by simp [hx])) y hy
 intro y hy
 rw [nodes] at hy
 rcases List.mem_cons.1 hy with rfl | hy
 ·exact ⟨by show -1000 ≤ f; omega, by show f ≤ 1000; omega⟩
 ·split at hy
  ·cases hy
  ·exact hl y hy
theorem cmp_clone' (t : S30) : cmpT t (cloneT t) = 0 := eqv_symm (cmp_clone t)
end
section
def subst_S_Apply.f (k : Nat) (l0 : List S114) (a1_0 : Int) (l1_1 : List S30) : Option (Int × List S30) := subst_mappedA.f k a1_0 l1_1 l0
theorem subst_S_Apply.calls (k : Nat) (A0 : Option Addr) (c0 : Nat) (l0 : List (S114)) (a1_0 : Int) (A1_1 : Option Addr) (c1_1 : Nat) (l1_1 : List (S30)) (r1 : Int) (r2 : List (S30)) (w : World) (hr0 : Kd.C k114 w A0 l0.length l0) (hc0 : l0.length ≤ c0) (hr1_1 : Kd.C k30 w A1_1 l1_1.length l1_1) (hc1_1 : l1_1.length ≤ c1_1) (h : subst_S_Apply.f k l0 a1_0 l1_1 = some (r1, r2)) :
  Calls Try.prog 53 #[.slice A0 l0.length c0, .agg #[.int .i64 a1_0, .slice A1_1 l1_1.length c1_1]] w fun e w' => ∃ v1_ : Value, e = .returned (.agg #[.int .i64 r1, v1_]) ∧ Kd.R k30 30 w' w.heap.size (fun _ => True) v1_ r2 ∧ Below w.heap.size w w' :=
 subst_Apply.calls k A0 c0 l0 a1_0 A1_1 c1_1 l1_1 r1 r2 w hr0 hc0 hr1_1 hc1_1 h
section
variable {P : Program} {ops : Array Oper} {Q : Exit → Act → World → Prop}
theorem goesV_ {oi : Oper} {N : Option Tmp} {a : Act} {w : World} {K : Act → World → Prop} {f : FuncId} {fn : Func} {ar : Array Operand} {ts : Array TypeId} {c : Operand} (bound cap : Array Value) (hf : P.funcs[f]? = some fn) (hname : (fn.name == "runtime.NumGoroutine") = false) (hb : fn.body.isSome = true) (args : Array Value)
  (hw : Region.wanted oi (yielded ops a.tmps) = true) (hN : oi.dst = N) (hop : oi.op = .call { callee := .value c, args := ar, argTypes := ts }) (hc : a.eval c = .func (.func f) bound cap) (hargs : bound ++ ar.map a.eval ++ cap = args)
  (h : Calls P f args w fun e w' => ∃ v, e = .returned v ∧ K (a.put N v) w') : if Region.wanted oi (yielded ops a.tmps) = true then Oper.wp P oi a w K Q else K (a.put N undef) w := by
 refine call_ f args hw hN ?_ h
 have he := enters_ hf hname hb args w
 unfold execOp
 simp [hop, resolve, hc, Deferred.ofValue, invoke, ← hargs]
 rw [← Array.append_assoc, hargs]
 exact he
end
end
section
attribute [local go_sem] yaq_ yao_ max_two min_two yal_ yak_ yap_ yan_
def clause_mapped.l0 : Nat → List (S114) → List (S78) → List (S78) → Int → Int → Option ((List (S78)))
 | 0, _, _, _, _, _ => none
 | k + 1, x1, x5, x8, x9, x10 => if x10 < x9 then (if 0 ≤ x10 then (if x10 < (x8.length : Int) then ((subst_S_Apply.f k x1 ((rd_T78 x8 x10).f1.f0) ((rd_T78 x8 x10).f1.f1)).bind fun bt103 => ((subst_S_Apply.f k x1 ((rd_T78 x8 x10).f2.f0) ((rd_T78 x8 x10).f2.f1)).bind fun bt107 => (if x5.length < 1954687338268 then (clause_mapped.l0 k x1 (x5 ++ [(⟨(rd_T78 x8 x10).f0, (⟨bt103.1, bt103.2⟩ : S30), (⟨bt107.1, bt107.2⟩ : S30)⟩ : S78)]) x8 x9 (wrap64 (x10 + 1))) else (none)))) else (none)) else (none)) else (some x5)
def clause_mapped.f (k : Nat) (l0 : List (S78)) (l1 : List (S114)) : Option ((List (S78))) := clause_mapped.l0 k l1 ([] : List (S78)) l0 (l0.length : Int) 0
def clause_mapped.T5 : Bool × List (List Nat × List Nat) := (true, [([], []), ([], []), ([1], [1]), ([], []), ([], []), ([4], [4]), ([3, 5], [3, 5]), ([], []), ([], []), ([8], [8]), ([7, 9, 6], [7, 9]), ([2, 6, 10], [2, 6, 10]), ([11], [11]), ([0, 12, 10], [0, 12]), ([13, 13, 0, 1, 2, 3, 4, 5, 6, 7, 8, 9, 10, 11, 12, 13], [0, 13])])
def clause_mapped.B5 : List Nat := [0, 0, 2, 0, 0, 16, 56, 0, 0, 256, 1016, 2046, 4094, 8191, 16383]
theorem clause_mapped.tab5 : rtab .any (opsOf Try.f102 5) = clause_mapped.T5 := by kernel_rfl
theorem clause_mapped.bits5 : waitsOk clause_mapped.T5.2 clause_mapped.B5 = true := by kernel_rfl
set_option maxHeartbeats 8000000 in
set_option maxRecDepth 100000 in
theorem clause_mapped.calls (k : Nat) (A0 : Option Addr) (c0 : Nat) (l0 : List (S78)) (A1 : Option Addr) (c1 : Nat) (l1 : List (S114)) (r : List (S78)) (w : World) (hr0 : Kd.C k78 w A0 l0.length l0) (hc0 : l0.length ≤ c0) (hr1 : Kd.C k114 w A1 l1.length l1) (hc1 : l1.length ≤ c1) (h : clause_mapped.f k l0 l1 = some r) :
  Calls Try.prog 102 #[.slice A0 l0.length c0, (.func (.func 53) #[.slice A1 l1.length c1] #[])] w fun e w' => ∃ v0_ : Value, e = .returned (v0_) ∧ Kd.R k78 78 w' w.heap.size (fun _ => True) v0_ r ∧ Below w.heap.size w w' := by
 have hu78 := Try.underlying78
 have hu30 := Try.underlying30
 have HR0 := Az_.mk hr0
 have HC0 := Az_.mk hc0
 clear hr0 hc0
 have HR1 := Az_.mk hr1
 have HC1 := Az_.mk hc1
 clear hr1 hc1
 have HB := Az_.mk (Below.refl w.heap.size w)
 have H : (clause_mapped.l0 k l1 ([] : List (S78)) l0 (l0.length : Int) 0) = some r := h
 clear h
 have H' := Az_.mk H
 clear H
 go_enter Try.func102, Try.ntmps102
 go_wp2
 go_loopg [5, 10] k (fun kq v5 v10 w' => ∃ (x5_1 : List (S78)) (x10_1 : Int), v10 = .int .i64 x10_1 ∧ Az_ (clause_mapped.l0 kq l1 x5_1 l0 (l0.length : Int) x10_1 = some r) ∧ Az_ (kq ≤ k) ∧ Az_ (Kd.R k78 78 w' w.heap.size (fun _ => True) v5 x5_1) ∧ Az_ (Below w.heap.size w w'))
 case atStart => exact ⟨(([] : List (S78))), (0), (by first | rfl | (simp; done) | (simp [*]; done)), H', ⟨Nat.le_refl _⟩, ⟨by first | exact Kd.R_nil _ _ _ _ _ | exact Kd.N_nil _ _ _ _ _ | exact Kd.V_nil _ _ _ _ _ | exact Kd.Q_nil _ _ _ _ _ | exact Kd.S_nil _ _ _ _ _⟩, ⟨by repeat (first | (with_reducible first | exact HB.out | apply bA_ | apply bN_ | apply bD_) | exact HB.out)⟩⟩
 case round =>
  clear H'
  try clear c1
  try clear p2
  obtain ⟨x5_1, x10_1, rfl, HA, HK1, HO_5, HB⟩ := hrel
  cases gk with
  | zero => exact absurd HA.out (by simp [clause_mapped.l0])
  | succ k1 =>
   have H := HA.out
   clear HA
   simp only [clause_mapped.l0] at H
   by_cases c3 : x10_1 < (l0.length : Int)
   ·rw [if_pos c3] at H
    have c3b0 : decide (x10_1 < (l0.length : Int)) = true := decide_eq_true c3
    clear c3
    by_cases c4 : 0 ≤ x10_1
    ·rw [if_pos c4] at H
     have c4b0 : decide (0 ≤ x10_1) = true := decide_eq_true c4
     clear c4
     by_cases c5 : x10_1 < (l0.length : Int)
     ·rw [if_pos c5] at H
      have c5b0 : decide (x10_1 < (l0.length : Int)) = true := decide_eq_true c5
      clear c5
      replace H := Option.bind_eq_some_iff.mp H
      obtain ⟨⟨t103, t104⟩, A60, H⟩ := H
      replace H : ((subst_S_Apply.f k1 l1 ((rd_T78 l0 x10_1).f2.f0) ((rd_T78 l0 x10_1).f2.f1)).bind fun bt107 => (if x5_1.length < 1954687338268 then (clause_mapped.l0 k1 l1 (x5_1 ++ [(⟨(rd_T78 l0 x10_1).f0, (⟨t103, t104⟩ : S30), (⟨bt107.1, bt107.2⟩ : S30)⟩ : S78)]) l0 (l0.length : Int) (wrap64 (x10_1 + 1))) else (none))) = some r := H
      have A6 := Az_.mk A60
      clear A60
      replace H := Option.bind_eq_some_iff.mp H
      obtain ⟨⟨t107, t108⟩, A70, H⟩ := H
      replace H : (if x5_1.length < 1954687338268 then (clause_mapped.l0 k1 l1 (x5_1 ++ [(⟨(rd_T78 l0 x10_1).f0, (⟨t103, t104⟩ : S30), (⟨t107, t108⟩ : S30)⟩ : S78)]) l0 (l0.length : Int) (wrap64 (x10_1 + 1))) else (none)) = some r := H
      have A7 := Az_.mk A70
      clear A70
      by_cases c8 : x5_1.length < 1954687338268
      ·rw [if_pos c8] at H
       have LMc8 := Az_.mk c8
       clear c8
       obtain ⟨y111, hy111⟩ : ∃ y_ : List (S78), y_ = (x5_1 ++ [(⟨(rd_T78 l0 x10_1).f0, (⟨t103, t104⟩ : S30), (⟨t107, t108⟩ : S30)⟩ : S78)]) := ⟨_, rfl⟩
       replace H : (clause_mapped.l0 k1 l1 y111 l0 (l0.length : Int) (wrap64 (x10_1 + 1))) = some r := by first | (rw [hy111]; with_reducible exact H) | (have H2_ := (Option.bind_some _ _).symm.trans H; rw [hy111]; with_reducible exact H2_) | (have H2_ := (Option.bind_some _ _).symm.trans H; with_reducible exact H2_) | with_reducible exact H | (rw [hy111]; exact H) | exact H
       have Ny111 := Az_.mk hy111
       clear hy111
       have H' := Az_.mk H
       clear H
       have p101 : 0 ≤ (x10_1 : Int) := of_decide_eq_true (by first | (with_reducible assumption) | assumption)
       have q101 : x10_1 < (l0.length : Int) := of_decide_eq_true (by first | (with_reducible assumption) | assumption)
       obtain ⟨ad101, A101_2, c101_2, A101_4, c101_4, e101, hx101_0, hx101_1, hx101_2, hx101_3, hx101_4, hl101_2, hi101_2, hl101_4, hi101_4⟩ := at_T78 HR0.out x10_1 p101 q101
       cases e101
       replace hx101_0 := (HB.out.cell (World.block_lt_of_cell? w _ hx101_0)).trans hx101_0
       replace hx101_1 := (HB.out.cell (World.block_lt_of_cell? w _ hx101_1)).trans hx101_1
       replace hx101_2 := (HB.out.cell (World.block_lt_of_cell? w _ hx101_2)).trans hx101_2
       replace hx101_3 := (HB.out.cell (World.block_lt_of_cell? w _ hx101_3)).trans hx101_3
       replace hx101_4 := (HB.out.cell (World.block_lt_of_cell? w _ hx101_4)).trans hx101_4
       have HR101_2 := Az_.mk hi101_2
       have HC101_2 := Az_.mk hl101_2
       clear hi101_2 hl101_2
       have HR101_4 := Az_.mk hi101_4
       have HC101_4 := Az_.mk hl101_4
       clear hi101_4 hl101_4
       replace p101 := eq_true p101
       replace q101 := eq_true q101
       try go_wp2_with (first | ((with_reducible refine yaj_ (N := 7) rfl ?_); refine yai_ ?hg (N := 7) ?hd (cs := #[.bool false, .int .i64 0, .slice none 0 0, .int .i64 0, .slice none 0 0]) (t := 78) ?hr ?_; (case hd => rfl); (case hg => rfl); (case hr => first | (go_simp; done) | (go_simp; rfl)); intro gb102 hg w9 hbox hb; have n0_ := Az_.mk (Kd.R_below (Kd.R_elderB (by (with_reducible repeat (first | apply Kd.R_alloc | apply Kd.R_drewN | apply Kd.R_drew)); exact HO_5.out) gb102 (Nat.le_of_eq hg.symm)) hb); have n1_ := Az_.mk (bT_ (by repeat (first | (with_reducible first | exact HB.out | apply bA_ | apply bN_ | apply bD_) | exact HB.out)) hb); have n2_ := Az_.mk (hbox); have n3_ := Az_.mk ((by rw [hg]; exact (bZ_ (by repeat (first | (with_reducible first | exact HB.out | apply bA_ | apply bN_ | apply bD_) | exact HB.out))) : w.heap.size ≤ gb102)); have n4_ := Az_.mk ((by rw [hg]; exact (bZ_ (by repeat (first | (with_reducible first | exact HB.out | apply bA_ | apply bN_ | apply bD_) | exact HB.out))) : w.heap.size ≤ gb102)); clear HO_5; clear HB; have HO_5 := n0_; have HB := n1_; have BK102 := n2_; have GW102 := n3_; have GE102 := n4_; clear n0_ n1_ n2_ n3_ n4_; clear hb hbox hg; have hcz10_0 : w9.cell? ⟨gb102, 0, none⟩ = some (.bool false) := (yaa_ BK102.out 0).trans rfl; have hcz10_1 : w9.cell? ⟨gb102, 1, none⟩ = some (.int .i64 0) := (yaa_ BK102.out 1).trans rfl; have hcz10_2 : w9.cell? ⟨gb102, 2, none⟩ = some (.slice none 0 0) := (yaa_ BK102.out 2).trans rfl; have hcz10_3 : w9.cell? ⟨gb102, 3, none⟩ = some (.int .i64 0) := (yaa_ BK102.out 3).trans rfl; have hcz10_4 : w9.cell? ⟨gb102, 4, none⟩ = some (.slice none 0 0) := (yaa_ BK102.out 4).trans rfl; have hfz10_0 := yab_ BK102.out 0; have hfz10_1 := yab_ BK102.out 1; have hfz10_2 := yab_ BK102.out 2; have hfz10_3 := yab_ BK102.out 3; have hfz10_4 := yab_ BK102.out 4))
       have n0_ : Az_ (Kd.R k78 78 (((((w9.setCell ⟨gb102, 0, none⟩ (.bool ((rd_T78 l0 x10_1).f0))).setCell ⟨gb102, 1, none⟩ (.int .i64 ((rd_T78 l0 x10_1).f1.f0))).setCell ⟨gb102, 2, none⟩ (.slice A101_2 ((rd_T78 l0 x10_1).f1.f1).length c101_2)).setCell ⟨gb102, 3, none⟩ (.int .i64 ((rd_T78 l0 x10_1).f2.f0))).setCell ⟨gb102, 4, none⟩ (.slice A101_4 ((rd_T78 l0 x10_1).f2.f1).length c101_4)) w.heap.size (fun k_ => k_ ≠ gb102) u5 x5_1) := ⟨by (with_reducible repeat (first | apply Kd.R_alloc | apply Kd.R_drewN | apply Kd.R_drew)); exact Kd.R_mono (Kd.R_far (p := ⟨gb102, 4, none⟩) (Kd.R_far (p := ⟨gb102, 3, none⟩) (Kd.R_far (p := ⟨gb102, 2, none⟩) (Kd.R_far (p := ⟨gb102, 1, none⟩) (Kd.R_far (p := ⟨gb102, 0, none⟩) (Kd.R_mono HO_5.out (fun k_ hk => (⟨hk, hk.2⟩ : _ ∧ k_ ≠ gb102))) (fun _ hk => hk.2) (.bool ((rd_T78 l0 x10_1).f0))) (fun _ hk => hk.2) (.int .i64 ((rd_T78 l0 x10_1).f1.f0))) (fun _ hk => hk.2) (.slice A101_2 ((rd_T78 l0 x10_1).f1.f1).length c101_2)) (fun _ hk => hk.2) (.int .i64 ((rd_T78 l0 x10_1).f2.f0))) (fun _ hk => hk.2) (.slice A101_4 ((rd_T78 l0 x10_1).f2.f1).length c101_4)) (fun _ hk => hk.1.2)⟩
       have n1_ : Az_ ((((((w9.setCell ⟨gb102, 0, none⟩ (.bool ((rd_T78 l0 x10_1).f0))).setCell ⟨gb102, 1, none⟩ (.int .i64 ((rd_T78 l0 x10_1).f1.f0))).setCell ⟨gb102, 2, none⟩ (.slice A101_2 ((rd_T78 l0 x10_1).f1.f1).length c101_2)).setCell ⟨gb102, 3, none⟩ (.int .i64 ((rd_T78 l0 x10_1).f2.f0))).setCell ⟨gb102, 4, none⟩ (.slice A101_4 ((rd_T78 l0 x10_1).f2.f1).length c101_4)).heap[gb102]? = some (.cells #[.bool ((rd_T78 l0 x10_1).f0), .int .i64 ((rd_T78 l0 x10_1).f1.f0), .slice A101_2 ((rd_T78 l0 x10_1).f1.f1).length c101_2, .int .i64 ((rd_T78 l0 x10_1).f2.f0), .slice A101_4 ((rd_T78 l0 x10_1).f2.f1).length c101_4] 78 (0, 0))) := ⟨by (with_reducible repeat (first | refine kN_ ?_ _ | refine kD_ ?_ | refine kA_ ?_ _)); refine blk_put (cs := #[.bool ((rd_T78 l0 x10_1).f0), .int .i64 ((rd_T78 l0 x10_1).f1.f0), .slice A101_2 ((rd_T78 l0 x10_1).f1.f1).length c101_2, .int .i64 ((rd_T78 l0 x10_1).f2.f0), .slice none 0 0]) ?_ 4 _ rfl; (with_reducible repeat (first | refine kN_ ?_ _ | refine kD_ ?_ | refine kA_ ?_ _)); refine blk_put (cs := #[.bool ((rd_T78 l0 x10_1).f0), .int .i64 ((rd_T78 l0 x10_1).f1.f0), .slice A101_2 ((rd_T78 l0 x10_1).f1.f1).length c101_2, .int .i64 0, .slice none 0 0]) ?_ 3 _ rfl; (with_reducible repeat (first | refine kN_ ?_ _ | refine kD_ ?_ | refine kA_ ?_ _)); refine blk_put (cs := #[.bool ((rd_T78 l0 x10_1).f0), .int .i64 ((rd_T78 l0 x10_1).f1.f0), .slice none 0 0, .int .i64 0, .slice none 0 0]) ?_ 2 _ rfl; (with_reducible repeat (first | refine kN_ ?_ _ | refine kD_ ?_ | refine kA_ ?_ _)); refine blk_put (cs := #[.bool ((rd_T78 l0 x10_1).f0), .int .i64 0, .slice none 0 0, .int .i64 0, .slice none 0 0]) ?_ 1 _ rfl; (with_reducible repeat (first | refine kN_ ?_ _ | refine kD_ ?_ | refine kA_ ?_ _)); refine blk_put (cs := #[.bool false, .int .i64 0, .slice none 0 0, .int .i64 0, .slice none 0 0]) ?_ 0 _ rfl; (with_reducible repeat (first | refine kN_ ?_ _ | refine kD_ ?_ | refine kA_ ?_ _)); exact BK102.out⟩
       have n2_ : Az_ (Below w.heap.size w (((((w9.setCell ⟨gb102, 0, none⟩ (.bool ((rd_T78 l0 x10_1).f0))).setCell ⟨gb102, 1, none⟩ (.int .i64 ((rd_T78 l0 x10_1).f1.f0))).setCell ⟨gb102, 2, none⟩ (.slice A101_2 ((rd_T78 l0 x10_1).f1.f1).length c101_2)).setCell ⟨gb102, 3, none⟩ (.int .i64 ((rd_T78 l0 x10_1).f2.f0))).setCell ⟨gb102, 4, none⟩ (.slice A101_4 ((rd_T78 l0 x10_1).f2.f1).length c101_4))) := ⟨by repeat (first | (with_reducible first | exact HB.out | apply bA_ | apply bN_ | apply bD_ | refine bS_ ?_ GE102.out) | exact HB.out)⟩
       (try clear HO_5)
       (try clear BK102)
       (try clear HB)
       generalize (((((w9.setCell ⟨gb102, 0, none⟩ (.bool ((rd_T78 l0 x10_1).f0))).setCell ⟨gb102, 1, none⟩ (.int .i64 ((rd_T78 l0 x10_1).f1.f0))).setCell ⟨gb102, 2, none⟩ (.slice A101_2 ((rd_T78 l0 x10_1).f1.f1).length c101_2)).setCell ⟨gb102, 3, none⟩ (.int .i64 ((rd_T78 l0 x10_1).f2.f0))).setCell ⟨gb102, 4, none⟩ (.slice A101_4 ((rd_T78 l0 x10_1).f2.f1).length c101_4)) = w11 at n0_ n1_ n2_ ⊢
       have HO_5 := n0_
       have BK102 := n1_
       have HB := n2_
       clear n0_ n1_ n2_
       have n0_ := Az_.mk (Kd.R_drew HO_5.out)
       have n1_ := Az_.mk (kD_ BK102.out)
       have n2_ := Az_.mk (bD_ HB.out)
       clear HO_5
       clear BK102
       clear HB
       have HO_5 := n0_
       have BK102 := n1_
       have HB := n2_
       clear n0_ n1_ n2_
       refine start_ (n := 15) (S := fun w' => w'.cell? ⟨gb102, 0, none⟩ = some (.bool ((rd_T78 l0 x10_1).f0)) ∧ w'.cell? ⟨gb102, 1, none⟩ = some (.int .i64 ((rd_T78 l0 x10_1).f1.f0)) ∧ w'.cell? ⟨gb102, 2, none⟩ = some (.slice A101_2 ((rd_T78 l0 x10_1).f1.f1).length c101_2) ∧ w'.cell? ⟨gb102, 3, none⟩ = some (.int .i64 ((rd_T78 l0 x10_1).f2.f0)) ∧ w'.cell? ⟨gb102, 4, none⟩ = some (.slice A101_4 ((rd_T78 l0 x10_1).f2.f1).length c101_4)) (ds := []) #[false, false, false, false, false, false, false, false, false, false, false, false, false, false, false] (by kernel_rfl) rfl rfl ⟨(yaa_ BK102.out 0).trans rfl, (yaa_ BK102.out 1).trans rfl, (yaa_ BK102.out 2).trans rfl, (yaa_ BK102.out 3).trans rfl, (yaa_ BK102.out 4).trans rfl⟩ (fun hHeld => ?_); refine with_tabW clause_mapped.tab5 clause_mapped.bits5 (fun HT_ HW_ => ?_)
       generalize w11.drew = w12 at HO_5 BK102 HB hHeld ⊢
       refine pure_ (i := 0) (N := some 14) (v := ?_) (a' := ?_) #[true, false, false, false, false, false, false, false, false, false, false, false, false, false, false] rfl rfl (any_of HT_.out (by kernel_rfl)) (fun _ _ _ h => h) (Or.inl ⟨by rfl, ?_⟩) ?_ ?_
       rotate_left
       ·intro w'
        go_simp
        with_reducible rfl
       rotate_left
       ·simp only [Act.put, List.setIfInBounds_toArray, List.set_cons_zero, List.set_cons_succ, i64_w, i32_w]
        rfl
       refine pure_ (i := 1) (N := some 15) (v := ?_) (a' := ?_) #[true, true, false, false, false, false, false, false, false, false, false, false, false, false, false] rfl rfl (any_of HT_.out (by kernel_rfl)) (fun _ _ _ h => h) (Or.inl ⟨by rfl, ?_⟩) ?_ ?_
       rotate_left
       ·intro w'
        go_simp
        with_reducible rfl
       rotate_left
       ·simp only [Act.put, List.setIfInBounds_toArray, List.set_cons_zero, List.set_cons_succ, i64_w, i32_w]
        rfl
       refine pure_ (i := 3) (N := some 17) (v := ?_) (a' := ?_) #[true, true, false, true, false, false, false, false, false, false, false, false, false, false, false] rfl rfl (any_of HT_.out (by kernel_rfl)) (fun _ _ _ h => h) (Or.inl ⟨by rfl, ?_⟩) ?_ ?_
       rotate_left
       ·intro w'
        go_simp
        with_reducible rfl
       rotate_left
       ·simp only [Act.put, List.setIfInBounds_toArray, List.set_cons_zero, List.set_cons_succ, i64_w, i32_w]
        rfl
       refine pure_ (i := 4) (N := some 18) (v := ?_) (a' := ?_) #[true, true, false, true, true, false, false, false, false, false, false, false, false, false, false] rfl rfl (any_of HT_.out (by kernel_rfl)) (fun _ _ _ h => h) (Or.inl ⟨by rfl, ?_⟩) ?_ ?_
       rotate_left
       ·intro w'
        go_simp
        with_reducible rfl
       rotate_left
       ·simp only [Act.put, List.setIfInBounds_toArray, List.set_cons_zero, List.set_cons_succ, i64_w, i32_w]
        rfl
       refine pure_ (i := 7) (N := some 21) (v := ?_) (a' := ?_) #[true, true, false, true, true, false, false, true, false, false, false, false, false, false, false] rfl rfl (any_of HT_.out (by kernel_rfl)) (fun _ _ _ h => h) (Or.inl ⟨by rfl, ?_⟩) ?_ ?_
       rotate_left
       ·intro w'
        go_simp
        with_reducible rfl
       rotate_left
       ·simp only [Act.put, List.setIfInBounds_toArray, List.set_cons_zero, List.set_cons_succ, i64_w, i32_w]
        rfl
       refine pure_ (i := 8) (N := some 22) (v := ?_) (a' := ?_) #[true, true, false, true, true, false, false, true, true, false, false, false, false, false, false] rfl rfl (any_of HT_.out (by kernel_rfl)) (fun _ _ _ h => h) (Or.inl ⟨by rfl, ?_⟩) ?_ ?_
       rotate_left
       ·intro w'
        go_simp
        with_reducible rfl
       rotate_left
       ·simp only [Act.put, List.setIfInBounds_toArray, List.set_cons_zero, List.set_cons_succ, i64_w, i32_w]
        rfl
       refine take_ (i := 2) (N := some 16) (v := ?_) (a' := ?_) #[true, true, true, true, true, false, false, true, true, false, false, false, false, false, false] rfl rfl (yam_ HT_.out HW_.out (by kernel_rfl)) (fun _ _ _ h => h) (Or.inl ⟨by rfl, ?_⟩) hHeld ?_ ?_
       rotate_left
       ·rintro w' ⟨s0, s1, s2, s3, s4⟩
        go_simp
        with_reducible rfl
       rotate_left
       ·simp only [Act.put, List.setIfInBounds_toArray, List.set_cons_zero, List.set_cons_succ, i64_w, i32_w]
        rfl
       refine take_ (i := 5) (N := some 19) (v := ?_) (a' := ?_) #[true, true, true, true, true, true, false, true, true, false, false, false, false, false, false] rfl rfl (yam_ HT_.out HW_.out (by kernel_rfl)) (fun _ _ _ h => h) (Or.inl ⟨by rfl, ?_⟩) hHeld ?_ ?_
       rotate_left
       ·rintro w' ⟨s0, s1, s2, s3, s4⟩
        go_simp
        with_reducible rfl
       rotate_left
       ·simp only [Act.put, List.setIfInBounds_toArray, List.set_cons_zero, List.set_cons_succ, i64_w, i32_w]
        rfl
       refine take_ (i := 9) (N := some 23) (v := ?_) (a' := ?_) #[true, true, true, true, true, true, false, true, true, true, false, false, false, false, false] rfl rfl (yam_ HT_.out HW_.out (by kernel_rfl)) (fun _ _ _ h => h) (Or.inl ⟨by rfl, ?_⟩) hHeld ?_ ?_
       rotate_left
       ·rintro w' ⟨s0, s1, s2, s3, s4⟩
        go_simp
        with_reducible rfl
       rotate_left
       ·simp only [Act.put, List.setIfInBounds_toArray, List.set_cons_zero, List.set_cons_succ, i64_w, i32_w]
        rfl
       refine one_ (i := 6) (N := some 20) #[true, true, true, true, true, true, true, true, true, true, false, false, false, false, false] rfl rfl (one_of HT_.out (by kernel_rfl)) (by decide) (fun K hK => ?_)
       refine goesV_ #[.slice A1 l1.length c1] #[] Try.func53 (by kernel_rfl) rfl #[.slice A1 l1.length c1, .agg #[.int .i64 ((rd_T78 l0 x10_1).f1.f0), .slice A101_2 ((rd_T78 l0 x10_1).f1.f1).length c101_2]] (by rfl) rfl rfl rfl (by (try simp only [List.map_toArray, List.map_cons, List.map_nil]); first | done | rfl | (simp only [List.length_drop, List.length_take]; rfl)) ?_
       with_reducible refine (subst_S_Apply.calls k1 _ _ l1 ((rd_T78 l0 x10_1).f1.f0) _ _ ((rd_T78 l0 x10_1).f1.f1) t103 t104 _ ?side1 ?side2 ?side3 ?side4 A6.out).mono ?_
       (case side1 => repeat (first | exact (Kd.C_below HR1.out HB.out) | (with_reducible refine Kd.C_alloc ?_ _) | (with_reducible refine Kd.C_drewN ?_ _) | (with_reducible refine Kd.C_drew ?_)))
       (case side2 => exact HC1.out)
       (case side3 => repeat (first | exact (Kd.C_below HR101_2.out HB.out) | (with_reducible refine Kd.C_alloc ?_ _) | (with_reducible refine Kd.C_drewN ?_ _) | (with_reducible refine Kd.C_drew ?_)))
       (case side4 => exact HC101_2.out)
       rintro e w13 ⟨v105, rfl, ho0, hb⟩
       refine ⟨_, rfl, ?_⟩
       have n0_ := Az_.mk (Kd.R_elder' (by (with_reducible repeat (first | apply Kd.R_alloc | apply Kd.R_drewN | apply Kd.R_drew)); exact HO_5.out) (Kd.R_base ho0) hb)
       have n1_ := Az_.mk (Kd.R_lower ho0 (bZ_ (by repeat (first | (with_reducible first | exact HB.out | apply bA_ | apply bN_ | apply bD_ | refine bS_ ?_ GE102.out) | exact HB.out))))
       have n2_ := Az_.mk (kB_ (g := gb102) (o := .cells #[.bool ((rd_T78 l0 x10_1).f0), .int .i64 ((rd_T78 l0 x10_1).f1.f0), .slice A101_2 ((rd_T78 l0 x10_1).f1.f1).length c101_2, .int .i64 ((rd_T78 l0 x10_1).f2.f0), .slice A101_4 ((rd_T78 l0 x10_1).f2.f1).length c101_4] 78 (0, 0)) (by (with_reducible repeat (first | refine kN_ ?_ _ | refine kD_ ?_ | refine kA_ ?_ _)); exact BK102.out) hb)
       have n3_ := Az_.mk (bT_ (by repeat (first | (with_reducible first | exact HB.out | apply bA_ | apply bN_ | apply bD_ | refine bS_ ?_ GE102.out) | exact HB.out)) hb)
       clear HO_5
       clear BK102
       clear HB
       have HO_5 := n0_
       have HO106 := n1_
       have BK102 := n2_
       have HB := n3_
       clear n0_ n1_ n2_ n3_
       (try clear hb)
       (try clear hb2)
       (try clear hk)
       (try clear hi)
       (try clear ho0)
       refine hK.out _ _ ⟨(yaa_ BK102.out 0).trans rfl, (yaa_ BK102.out 1).trans rfl, (yaa_ BK102.out 2).trans rfl, (yaa_ BK102.out 3).trans rfl, (yaa_ BK102.out 4).trans rfl⟩ (fun hHeld => ?_)
       clear hK K
       refine norm_ (a' := ?_) ?_ ?_
       rotate_left
       ·show Act.put _ (some 20) _ = _
        simp only [Act.put, List.setIfInBounds_toArray, List.set_cons_zero, List.set_cons_succ, i64_w, i32_w]
        rfl
       refine one_ (i := 10) (N := some 24) #[true, true, true, true, true, true, true, true, true, true, true, false, false, false, false] rfl rfl (one_of HT_.out (by kernel_rfl)) (by decide) (fun K hK => ?_)
       refine goesV_ #[.slice A1 l1.length c1] #[] Try.func53 (by kernel_rfl) rfl #[.slice A1 l1.length c1, .agg #[.int .i64 ((rd_T78 l0 x10_1).f2.f0), .slice A101_4 ((rd_T78 l0 x10_1).f2.f1).length c101_4]] (by rfl) rfl rfl rfl (by (try simp only [List.map_toArray, List.map_cons, List.map_nil]); first | done | rfl | (simp only [List.length_drop, List.length_take]; rfl)) ?_
       with_reducible refine (subst_S_Apply.calls k1 _ _ l1 ((rd_T78 l0 x10_1).f2.f0) _ _ ((rd_T78 l0 x10_1).f2.f1) t107 t108 _ ?side1 ?side2 ?side3 ?side4 A7.out).mono ?_
       (case side1 => repeat (first | exact (Kd.C_below HR1.out HB.out) | (with_reducible refine Kd.C_alloc ?_ _) | (with_reducible refine Kd.C_drewN ?_ _) | (with_reducible refine Kd.C_drew ?_)))
       (case side2 => exact HC1.out)
       (case side3 => repeat (first | exact (Kd.C_below HR101_4.out HB.out) | (with_reducible refine Kd.C_alloc ?_ _) | (with_reducible refine Kd.C_drewN ?_ _) | (with_reducible refine Kd.C_drew ?_)))
       (case side4 => exact HC101_4.out)
       rintro e w14 ⟨v109, rfl, ho0, hb⟩
       refine ⟨_, rfl, ?_⟩
       have n0_ := Az_.mk (Kd.R_elder' (by (with_reducible repeat (first | apply Kd.R_alloc | apply Kd.R_drewN | apply Kd.R_drew)); exact HO_5.out) (Kd.R_base ho0) hb)
       have n1_ := Az_.mk (Kd.R_elder' (by (with_reducible repeat (first | apply Kd.R_alloc | apply Kd.R_drewN | apply Kd.R_drew)); exact HO106.out) (Kd.R_base ho0) hb)
       have n2_ := Az_.mk (Kd.R_lower (Kd.R_new' ho0 (Kd.R_lt (by (with_reducible repeat (first | apply Kd.R_alloc | apply Kd.R_drewN | apply Kd.R_drew)); exact HO106.out))) (bZ_ (by repeat (first | (with_reducible first | exact HB.out | apply bA_ | apply bN_ | apply bD_ | refine bS_ ?_ GE102.out) | exact HB.out))))
       have n3_ := Az_.mk (kB_ (g := gb102) (o := .cells #[.bool ((rd_T78 l0 x10_1).f0), .int .i64 ((rd_T78 l0 x10_1).f1.f0), .slice A101_2 ((rd_T78 l0 x10_1).f1.f1).length c101_2, .int .i64 ((rd_T78 l0 x10_1).f2.f0), .slice A101_4 ((rd_T78 l0 x10_1).f2.f1).length c101_4] 78 (0, 0)) (by (with_reducible repeat (first | refine kN_ ?_ _ | refine kD_ ?_ | refine kA_ ?_ _)); exact BK102.out) hb)
       have n4_ := Az_.mk (bT_ (by repeat (first | (with_reducible first | exact HB.out | apply bA_ | apply bN_ | apply bD_ | refine bS_ ?_ GE102.out) | exact HB.out)) hb)
       clear HO_5
       clear HO106
       clear BK102
       clear HB
       have HO_5 := n0_
       have HO106 := n1_
       have HO110 := n2_
       have BK102 := n3_
       have HB := n4_
       clear n0_ n1_ n2_ n3_ n4_
       (try clear hb)
       (try clear hb2)
       (try clear hk)
       (try clear hi)
       (try clear ho0)
       obtain ⟨Ao15, co15, eo15⟩ := Kd.R_slice HO110.out
       (first | subst eo15 | (injection eo15 with f1_ f2_ f3_; have f4_ := f1_.symm; have f5_ := f3_.symm; clear f1_ f2_ f3_; subst f4_; subst f5_))
       obtain ⟨Ao16, co16, eo16⟩ := Kd.R_slice HO106.out
       (first | subst eo16 | (injection eo16 with f1_ f2_ f3_; have f4_ := f1_.symm; have f5_ := f3_.symm; clear f1_ f2_ f3_; subst f4_; subst f5_))
       refine hK.out _ _ ⟨(yaa_ BK102.out 0).trans rfl, (yaa_ BK102.out 1).trans rfl, (yaa_ BK102.out 2).trans rfl, (yaa_ BK102.out 3).trans rfl, (yaa_ BK102.out 4).trans rfl⟩ (fun hHeld => ?_)
       clear hK K
       refine norm_ (a' := ?_) ?_ ?_
       rotate_left
       ·show Act.put _ (some 24) _ = _
        simp only [Act.put, List.setIfInBounds_toArray, List.set_cons_zero, List.set_cons_succ, i64_w, i32_w]
        rfl
       refine pure_ (i := 11) (N := some 25) (v := ?_) (a' := ?_) #[true, true, true, true, true, true, true, true, true, true, true, true, false, false, false] rfl rfl (any_of HT_.out (by kernel_rfl)) (fun _ _ _ h => h) (Or.inl ⟨by rfl, ?_⟩) ?_ ?_
       rotate_left
       ·intro w'
        go_simp
        with_reducible rfl
       rotate_left
       ·simp only [Act.put, List.setIfInBounds_toArray, List.set_cons_zero, List.set_cons_succ, i64_w, i32_w]
        rfl
       refine one_ (i := 12) (N := some 26) #[true, true, true, true, true, true, true, true, true, true, true, true, true, false, false] rfl rfl (one_of HT_.out (by kernel_rfl)) (by decide) (fun K hK => ?_)
       refine value_ (w1 := ?_) (v := ?_) (by rfl) rfl ?_ ?_
       rotate_left 2
       ·go_simp
        constructor
        ·rfl
        ·rfl
       refine hK.out _ _ ⟨(yaa_ (kA_ BK102.out _) 0).trans rfl, (yaa_ (kA_ BK102.out _) 1).trans rfl, (yaa_ (kA_ BK102.out _) 2).trans rfl, (yaa_ (kA_ BK102.out _) 3).trans rfl, (yaa_ (kA_ BK102.out _) 4).trans rfl⟩ (fun hHeld => ?_)
       clear hK K
       refine norm_ (a' := ?_) ?_ ?_
       rotate_left
       ·show Act.put _ (some 26) _ = _
        simp only [Act.put, List.setIfInBounds_toArray, List.set_cons_zero, List.set_cons_succ, i64_w, i32_w]
        rfl
       refine one_ (i := 13) (N := some 27) #[true, true, true, true, true, true, true, true, true, true, true, true, true, true, false] rfl rfl (one_of HT_.out (by kernel_rfl)) (by decide) (fun K hK => ?_)
       refine Kd.R_append_step k78 (w0 := w) w.heap.size (by rfl) (.tmp 14) (.tmp 26) 68 78 (.agg #[(.bool false), (.int .i64 0), (.slice none 0 0), (.int .i64 0), (.slice none 0 0)]) 72 rfl Try.underlying68 info78 rfl (by decide) (by omega) u5 x5_1 (⟨(rd_T78 l0 x10_1).f0, (⟨t103, t104⟩ : S30), (⟨t107, t108⟩ : S30)⟩ : S78) [.bool ((rd_T78 l0 x10_1).f0), .int .i64 t103, .slice Ao16 t104.length co16, .int .i64 t107, .slice Ao15 t108.length co15] (fun k_ => k_ ≠ gb102) (fun k_ => ((fun k_ => k_ ≠ gb102)) k_ ∧ some k_ ≠ (u5 : Value).ownBlock) rfl rfl ?aP (fun _ hk => hk) ?aF ?aO ?aB ?aS ?aL ?_
       (case aP => exact k78_mkM _ _ _ (⟨(rd_T78 l0 x10_1).f0, (⟨t103, t104⟩ : S30), (⟨t107, t108⟩ : S30)⟩ : S78) (Kd.R_mono (Kd.R_types (Kd.R_apart' (HO106.out) (Kd.R_typed HO_5.out) (by decide)) BK102.out (by decide)) (fun k_ hk => ⟨hk.2, hk.1.2⟩)) (Kd.R_mono (Kd.R_types (Kd.R_apart' (HO110.out) (Kd.R_typed HO_5.out) (by decide)) BK102.out (by decide)) (fun k_ hk => ⟨hk.2, hk.1.2⟩)))
       (case aB => exact (by repeat (first | (with_reducible first | exact HB.out | apply bA_ | apply bN_ | apply bD_ | refine bS_ ?_ GE102.out) | exact HB.out)))
       (case aF => exact (fun k_ hk => Kd.freshB (g := gb102) (o := .cells #[.bool ((rd_T78 l0 x10_1).f0), .int .i64 ((rd_T78 l0 x10_1).f1.f0), .slice A101_2 ((rd_T78 l0 x10_1).f1.f1).length c101_2, .int .i64 ((rd_T78 l0 x10_1).f2.f0), .slice A101_4 ((rd_T78 l0 x10_1).f2.f1).length c101_4] 78 (0, 0)) (by (with_reducible repeat (first | refine kN_ ?_ _ | refine kD_ ?_ | refine kA_ ?_ _)); exact BK102.out) k_ hk))
       (case aO => exact (by (with_reducible repeat (first | apply Kd.R_alloc | apply Kd.R_drewN | apply Kd.R_drew)); exact Kd.R_mono HO_5.out (fun _ hk => hk.1.1)))
       (case aS => exact (bZ_ (by repeat (first | (with_reducible first | exact HB.out | apply bA_ | apply bN_ | apply bD_ | refine bS_ ?_ GE102.out) | exact HB.out))))
       (case aL => have := LMc8.out; omega)
       intro v112 w17 ho hb hg hat
       rw [← Ny111.out] at ho
       have n0_ := Az_.mk (blk_grown (g := gb102) (o := .cells #[.bool ((rd_T78 l0 x10_1).f0), .int .i64 ((rd_T78 l0 x10_1).f1.f0), .slice A101_2 ((rd_T78 l0 x10_1).f1.f1).length c101_2, .int .i64 ((rd_T78 l0 x10_1).f2.f0), .slice A101_4 ((rd_T78 l0 x10_1).f2.f1).length c101_4] 78 (0, 0)) (by (with_reducible repeat (first | refine kN_ ?_ _ | refine kD_ ?_ | refine kA_ ?_ _)); exact BK102.out) hg (Kd.R_away HO_5.out (fun _ hk => hk.1.1)))
       have n1_ := Az_.mk (hb)
       have n2_ := Az_.mk (ho)
       clear BK102
       clear HB
       clear HO_5
       clear HO106
       clear HO110
       have BK102 := n0_
       have HB := n1_
       have HO113 := n2_
       clear n0_ n1_ n2_
       clear ho hb hg hat
       refine hK.out _ _ ⟨(yaa_ BK102.out 0).trans rfl, (yaa_ BK102.out 1).trans rfl, (yaa_ BK102.out 2).trans rfl, (yaa_ BK102.out 3).trans rfl, (yaa_ BK102.out 4).trans rfl⟩ (fun hHeld => ?_)
       clear hK K
       refine norm_ (a' := ?_) ?_ ?_
       rotate_left
       ·show Act.put _ (some 27) _ = _
        simp only [Act.put, List.setIfInBounds_toArray, List.set_cons_zero, List.set_cons_succ, i64_w, i32_w]
        rfl
       refine pure_ (i := 14) (N := some 5) (v := ?_) (a' := ?_) #[true, true, true, true, true, true, true, true, true, true, true, true, true, true, true] rfl rfl (any_of HT_.out (by kernel_rfl)) (fun _ _ _ h => h) (Or.inl ⟨by rfl, ?_⟩) ?_ ?_
       rotate_left
       ·intro w'
        go_simp
        with_reducible rfl
       rotate_left
       ·simp only [Act.put, List.setIfInBounds_toArray, List.set_cons_zero, List.set_cons_succ, i64_w, i32_w]
        rfl
       refine done_ (done_of HT_.out (by kernel_rfl)) ?_
       try go_wp2
       go_roundg k1
       case measure => have := HK1.out; omega
       case rel => exact ⟨(y111), (wrap64 (x10_1 + 1)), (by first | rfl | (simp; done) | (simp [*]; done)), H', ⟨by have := HK1.out; omega⟩, ⟨by (with_reducible repeat (first | apply Kd.R_alloc | apply Kd.R_drewN | apply Kd.R_drew)); exact Kd.R_mono HO113.out (fun _ hk => trivial)⟩, ⟨by repeat (first | (with_reducible first | exact HB.out | apply bA_ | apply bN_ | apply bD_ | refine bS_ ?_ GE102.out) | exact HB.out)⟩⟩
      ·rw [if_neg c8] at H
       exact absurd H (by simp)
     ·rw [if_neg c5] at H
      exact absurd H (by simp)
    ·rw [if_neg c4] at H
     exact absurd H (by simp)
   ·rw [if_neg c3] at H
    have c3b0 : decide (x10_1 < (l0.length : Int)) = false := decide_eq_false c3
    clear c3
    obtain rfl := Option.some.inj H
    go_wp2
    go_ret
    exact ⟨_, by first | rfl | (simp [yae_, yad_] <;> rfl) | (simp [*, yae_, yad_] <;> rfl), by (with_reducible repeat (first | apply Kd.R_alloc | apply Kd.R_drewN | apply Kd.R_drew)); exact HO_5.out, by repeat (first | (with_reducible first | exact HB.out | apply bA_ | apply bN_ | apply bD_) | exact HB.out)⟩
end
section
attribute [local go_sem] yaq_ yao_ max_two min_two yal_ yak_ yap_ yan_
def clause_Apply.f (k : Nat) (l0 : List (S114)) (l1 : List (S78)) : Option ((List (S78))) := (clause_mapped.f k l1 l0).bind fun t114 => (some t114)
set_option maxHeartbeats 8000000 in
set_option maxRecDepth 100000 in
theorem clause_Apply.calls (k : Nat) (A0 : Option Addr) (c0 : Nat) (l0 : List (S114)) (A1 : Option Addr) (c1 : Nat) (l1 : List (S78)) (r : List (S78)) (w : World) (hr0 : Kd.C k114 w A0 l0.length l0) (hc0 : l0.length ≤ c0) (hr1 : Kd.C k78 w A1 l1.length l1) (hc1 : l1.length ≤ c1) (h : clause_Apply.f k l0 l1 = some r) :
  Calls Try.prog 71 #[.slice A0 l0.length c0, .slice A1 l1.length c1] w fun e w' => ∃ v0_ : Value, e = .returned (v0_) ∧ Kd.R k78 78 w' w.heap.size (fun _ => True) v0_ r ∧ Below w.heap.size w w' := by
 have HR0 := Az_.mk hr0
 have HC0 := Az_.mk hc0
 clear hr0 hc0
 have HR1 := Az_.mk hr1
 have HC1 := Az_.mk hc1
 clear hr1 hc1
 have HB := Az_.mk (Below.refl w.heap.size w)
 have H : ((clause_mapped.f k l1 l0).bind fun t114 => (some t114)) = some r := h
 clear h
 replace H := Option.bind_eq_some_iff.mp H
 obtain ⟨t114, A30, H⟩ := H
 replace H : (some t114) = some r := H
 have A3 := Az_.mk A30
 clear A30
 obtain rfl := Option.some.inj H
 go_enter Try.func71, Try.ntmps71
 go_wp2_with (first | ((with_reducible refine yah_ (f := 102) rfl ?_); refine goesL_ (some 8) rfl rfl Try.func102 (by kernel_rfl) rfl #[.slice A1 l1.length c1, (.func (.func 53) #[.slice A0 l0.length c0] #[])] rfl (by (try simp only [List.map_toArray, List.map_cons, List.map_nil]); first | done | rfl | (simp only [List.length_drop, List.length_take]; rfl)) ?_; (with_reducible refine (clause_mapped.calls k _ _ l1 _ _ l0 t114 _ ?side1 ?side2 ?side3 ?side4 A3.out).mono ?_); (case side1 => repeat (first | exact HR1.out | (with_reducible refine Kd.C_alloc ?_ _) | (with_reducible refine Kd.C_drewN ?_ _) | (with_reducible refine Kd.C_drew ?_))); (case side2 => exact HC1.out); (case side3 => repeat (first | exact HR0.out | (with_reducible refine Kd.C_alloc ?_ _) | (with_reducible refine Kd.C_drewN ?_ _) | (with_reducible refine Kd.C_drew ?_))); (case side4 => exact HC0.out); rintro e w4 ⟨v115, rfl, ho0, hb⟩; refine ⟨_, rfl, ?_⟩; have n0_ := Az_.mk (Kd.R_lower ho0 (bZ_ (by repeat (first | (with_reducible first | exact HB.out | apply bA_ | apply bN_ | apply bD_) | exact HB.out)))); have n1_ := Az_.mk (bT_ (by repeat (first | (with_reducible first | exact HB.out | apply bA_ | apply bN_ | apply bD_) | exact HB.out)) hb); clear HB; have HO116 := n0_; have HB := n1_; clear n0_ n1_; (try clear hb); (try clear hb2); (try clear hk); (try clear hi); (try clear ho0)))
 go_ret
 exact ⟨_, by first | rfl | (simp [yae_, yad_] <;> rfl) | (simp [*, yae_, yad_] <;> rfl), by (with_reducible repeat (first | apply Kd.R_alloc | apply Kd.R_drewN | apply Kd.R_drew)); exact HO116.out, by repeat (first | (with_reducible first | exact HB.out | apply bA_ | apply bN_ | apply bD_) | exact HB.out)⟩
end
section
def shareT : List S30 → List S30 → List S30
 | [], _ => []
 | x :: r, b => if b.any (sameT x) = true then x :: shareT r (b.eraseP (sameT x)) else shareT r b
theorem cnt_share : ∀ (a b : List S30) (x : S30), cnt (diffT a b).1 x + cnt (shareT a b) x = cnt a x ∧ cnt (diffT a b).2 x + cnt (shareT a b) x = cnt b x
 | [], b, x => by simp [diffT, shareT, cnt]
 | z :: r, b, x => by
  rw [diffT, shareT, cnt_cons]
  cases hz : b.any (sameT z) with
  | true =>
   rw [if_pos rfl, if_pos rfl, cnt_cons]
   have h1 := cnt_eraseP hz x
   obtain ⟨h2, h3⟩ := cnt_share r (b.eraseP (sameT z)) x
   omega
  | false =>
   rw [if_neg (by decide), if_neg (by decide)]
   obtain ⟨h2, h3⟩ := cnt_share r b x
   rw [cnt_cons]
   show cnt (diffT r b).1 x + _ + _ = _ ∧ cnt (diffT r b).2 x + _ = _
   omega
theorem cnt_map (s : S30 → S30) (hs : ∀ x y, sameT x y = true → sameT (s x) (s y) = true) : ∀ (l m : List S30), (∀ x, cnt l x = cnt m x) → ∀ x, cnt (l.map s) x = cnt (m.map s) x
 | [], m, h, x => by
  cases m with
  | nil => rfl
  | cons y m =>
   have h1 := cnt_mem (show y ∈ y :: m by simp)
   rw [← h y] at h1
   exact absurd h1 (Nat.lt_irrefl _)
 | z :: l, m, h, x => by
  have hz : 0 < cnt m z := by rw [← h z]; exact cnt_mem (by simp)
  obtain ⟨y0, hy0, hs0⟩ := cnt_pos hz
  obtain ⟨y, m1, m2, _, hzy, rfl, he⟩ := List.exists_of_eraseP hy0 hs0
  have hany : (m1 ++ y :: m2).any (sameT z) = true := List.any_eq_true.2 ⟨y0, hy0, hs0⟩
  have ih := cnt_map s hs l (m1 ++ m2) (fun x => by
   have h1 := cnt_eraseP hany x
   rw [he] at h1
   have h2 := h x
   rw [cnt_cons] at h2
   omega) x
  rw [List.map_cons, cnt_cons, ih, List.map_append, List.map_append, cnt_append, cnt_append, List.map_cons, cnt_cons]
  have hiff : (sameT x (s z) = true) ↔ (sameT x (s y) = true) := ⟨fun k => same_trans k (hs z y hzy), fun k => same_trans k (same_symm (hs z y hzy))⟩
  by_cases hx : sameT x (s z) = true
  ·rw [if_pos hx, if_pos (hiff.1 hx)]; omega
  ·rw [if_neg hx, if_neg (fun k => hx (hiff.2 k))]; omega
theorem multi_stable (g : Int → S30) (a b : List S30) (h : multiT a b = true) : multiT (a.map (mapT g)) (b.map (mapT g)) = true := by
 have hs : ∀ x y, sameT x y = true → sameT (mapT g x) (mapT g y) = true := fun x y k => same_iff.2 (map_congr g x y (same_iff.1 k))
 have ha : ∀ x, cnt (a.map (mapT g)) x = cnt ((diffT a b).1.map (mapT g) ++ (shareT a b).map (mapT g)) x := fun x => by
  rw [← List.map_append]
  exact cnt_map _ hs _ _ (fun x => by rw [cnt_append]; exact (cnt_share a b x).1.symm) x
 have hb : ∀ x, cnt (b.map (mapT g)) x = cnt ((diffT a b).2.map (mapT g) ++ (shareT a b).map (mapT g)) x := fun x => by
  rw [← List.map_append]
  exact cnt_map _ hs _ _ (fun x => by rw [cnt_append]; exact (cnt_share a b x).2.symm) x
 rw [multi_congr ha hb]
 unfold multiT at h
 rw [Bool.and_eq_true, Bool.not_eq_true', Bool.not_eq_true', List.any_eq_false, List.isEmpty_eq_false_iff] at h
 refine multi_of (fun e => h.1 (List.map_eq_nil_iff.1 e)) (fun v hv => ?_)
 obtain ⟨y, hy, rfl⟩ := List.mem_map.1 hv
 have := h.2 y hy
 rw [Bool.not_eq_true, Bool.not_eq_false', List.any_eq_true] at this
 obtain ⟨x, hx, hg⟩ := this
 exact ⟨_, List.mem_map.2 ⟨x, hx, rfl⟩, gt_stable g x y hg⟩
def appL (g : Int → S30) (x : S78) : S78 := ⟨x.f0, mapT g x.f1, mapT g x.f2⟩
theorem grL_stable (g : Int → S30) (x y : S78) (h : grL x y = true) : grL (appL g x) (appL g y) = true := by
 have ht : ∀ x : S78, termsT (appL g x) = (termsT x).map (mapT g) := fun x => by
  unfold termsT appL
  by_cases hx : x.f0 = true
  ·simp [hx]
  ·simp [hx]
 unfold grL
 rw [ht, ht]
 exact multi_stable g _ _ h
theorem grL_neg (A B : S30) : grL ⟨true, A, B⟩ ⟨false, A, B⟩ = true ∧ grL ⟨false, A, B⟩ ⟨true, A, B⟩ = false := by
 have h1 : ∀ x, cnt (termsT ⟨true, A, B⟩) x = cnt (termsT ⟨false, A, B⟩) x + cnt (termsT ⟨false, A, B⟩) x := fun x => by
  have h0 : cnt [] x = 0 := rfl
  simp only [termsT, if_true, Bool.false_eq_true, if_false, cnt_cons, h0]
  omega
 have hA : 0 < cnt (termsT ⟨false, A, B⟩) A := cnt_mem (by simp [termsT])
 have hg : grL ⟨true, A, B⟩ ⟨false, A, B⟩ = true := by
  unfold grL
  rw [multi_iff]
  exact ⟨⟨A, by rw [h1]; omega⟩, fun y hy => by rw [h1] at hy; omega⟩
 refine ⟨hg, ?_⟩
 cases h : grL ⟨false, A, B⟩ ⟨true, A, B⟩ with
 | false => rfl
 | true => have := grL_trans _ _ _ hg h; rw [grL_irrefl] at this; cases this
theorem grL_turned (x y : S78) : grL x ⟨y.f0, y.f2, y.f1⟩ = grL x y := by
 refine multi_congr (fun _ => rfl) (fun z => ?_)
 unfold termsT
 by_cases hy : y.f0 = true
 ·simp only [hy, if_true, cnt_cons]; omega
 ·simp only [hy, Bool.false_eq_true, if_false, cnt_cons]; omega
theorem multi_nil {a : List S30} (h : a ≠ []) : multiT a [] = true := by
 rw [multi_iff]
 obtain ⟨x, hx⟩ := List.exists_mem_of_ne_nil _ h
 exact ⟨⟨x, by have := cnt_mem hx; simp [cnt] at this ⊢; exact this⟩, fun y hy => by simp [cnt] at hy⟩
theorem grL_asymm {x y : S78} (h : grL x y = true) : grL y x = false := by
 cases k : grL y x with
 | false => rfl
 | true => have := grL_trans _ _ _ h k; rw [grL_irrefl] at this; cases this
theorem clone_len' (t : S30) : (nodes (cloneT t)).length = (nodes t).length := (cmp_len t (cloneT t) (cmp_clone' t)).symm
theorem appG_small' (s : List S114) (hs : ∀ b ∈ s, ok b.f1 ∧ (nodes b.f1).length ≤ 20) (f : Int) (hf : f < 0) (hf2 : -1000 ≤ f) : (nodes (appG s f)).length ≤ 20 ∧ SmallN (appG s f) := by
 unfold appG
 cases h : getB s (-1 - f) with
 | none =>
  refine ⟨by simp [nodes, hf], fun y hy => ?_⟩
  simp [nodes, hf] at hy
  subst hy
  exact ⟨by show -1000000 ≤ f; omega, by show f ≤ 1000000; omega⟩
 | some t =>
  obtain ⟨b, hb, rfl⟩ := getB_mem s _ t h
  obtain ⟨h1, h2⟩ := hs b hb
  have hft := fit_of_ok b.f1 h1 (by omega)
  exact ⟨by show (nodes (cloneT b.f1)).length ≤ 20; rw [clone_len']; exact h2, (eqv_fit (cmp_clone' b.f1) hft).2⟩
theorem Clause_spec (s : List S114) (hs : s.length ≤ 1000) (hok : ∀ b ∈ s, ok b.f1) (l : List S78) (hl : ∀ x ∈ l, fitL x) (hn : l.length ≤ 1000) : Ev (fun k => clause_Apply.f k s l) (l.map (appL (appG s))) := by
 have key : ∀ n i, l.length - i = n → i ≤ l.length → Ev (fun k => clause_mapped.l0 k s ((l.take i).map (appL (appG s))) l (l.length : Int) (i : Int)) (l.map (appL (appG s))) := by
  intro n
  induction n with
  | zero =>
   intro i hi hle
   exact Ev.step (f := fun _ => some (l.map (appL (appG s)))) (fun k => by rw [clause_mapped.l0, if_neg (by omega), List.take_of_length_le (by omega)]) (Ev.now _)
  | succ n ihn =>
   intro i hi hle
   have hlt : i < l.length := by omega
   obtain ⟨f1, f2⟩ := hl _ (List.getElem_mem hlt)
   refine Ev.step (f := fun k => (subst_S_Apply.f k s l[i].f1.f0 l[i].f1.f1).bind fun t => (subst_S_Apply.f k s l[i].f2.f0 l[i].f2.f1).bind fun u => if ((l.take i).map (appL (appG s))).length < 1954687338268 then clause_mapped.l0 k s ((l.take i).map (appL (appG s)) ++ [(⟨l[i].f0, (⟨t.1, t.2⟩ : S30), (⟨u.1, u.2⟩ : S30)⟩ : S78)]) l (l.length : Int) ((i + 1 : Nat) : Int) else none) (fun k => ?_) (Ev.bind (Apply_spec s hs hok l[i].f1 f1) (Ev.bind (Apply_spec s hs hok l[i].f2 f2) ?_))
   ·rw [clause_mapped.l0, if_pos (by omega), if_pos (by omega), if_pos (by omega), rd78_at l i hlt, wsucc i l.length hlt (by omega)]
   ·simp only [List.length_map, List.length_take]
    simp only [if_pos (show min i l.length < 1954687338268 by omega)]
    have := ihn (i + 1) (by omega) (by omega)
    rw [List.take_succ_eq_append_getElem hlt, List.map_append] at this
    simp only [S30.eta]
    exact this
 unfold clause_Apply.f
 refine Ev.bind (a := l.map (appL (appG s))) ?_ (Ev.now _)
 exact Ev.congr (f := fun k => clause_mapped.l0 k s [] l (l.length : Int) ((0 : Nat) : Int)) (fun k => rfl) (key l.length 0 rfl (by omega))
end
section
structure LitC (W : World) (x : S78) (A : Option Addr) (c : Nat) (B : Option Addr) (e : Nat) : Prop where
 l1 : x.f1.f1.length ≤ c
 c1 : k30.C W A x.f1.f1.length x.f1.f1
 l2 : x.f2.f1.length ≤ e
 c2 : k30.C W B x.f2.f1.length x.f2.f1
theorem LitC.below {W W' : World} {x : S78} {A B : Option Addr} {c e : Nat} (h : LitC W x A c B e) (hb : Below W.heap.size W W') : LitC W' x A c B e := ⟨h.l1, Kd.C_below h.c1 hb, h.l2, Kd.C_below h.c2 hb⟩
theorem Gr_calls {x y : S78} (hx : fitL x) (hy : fitL y) {A B A' B' : Option Addr} {c e c' e' : Nat} {W : World} (h : LitC W x A c B e) (h' : LitC W y A' c' B' e') :
  Calls Try.prog 66 #[.agg #[.bool x.f0, .int .i64 x.f1.f0, .slice A x.f1.f1.length c, .int .i64 x.f2.f0, .slice B x.f2.f1.length e], .agg #[.bool y.f0, .int .i64 y.f1.f0, .slice A' y.f1.f1.length c', .int .i64 y.f2.f0, .slice B' y.f2.f1.length e']] W fun r w' => r = .returned (.bool (grL x y)) ∧ Below W.heap.size W w' :=
 order_Greater.calls x.f0 x.f1.f0 A c x.f1.f1 x.f2.f0 B e x.f2.f1 y.f0 y.f1.f0 A' c' y.f1.f1 y.f2.f0 B' e' y.f2.f1 _ W h.c1 h.l1 h.c2 h.l2 h'.c1 h'.l1 h'.c2 h'.l2 (OGreater_of hx hy)
theorem lit_at {W : World} {g n : Nat} {l : List S78} (hC : k78.C W (some ⟨g, 0, none⟩) n l) (i : Nat) (hi : i < n) (x : S78) (hx : l[i]? = some x) : ∃ A c B e, LitC W x A c B e ∧ W.cell? ⟨g, i * 5, none⟩ = some (.bool x.f0) ∧ W.cell? ⟨g, i * 5 + 1, none⟩ = some (.int .i64 x.f1.f0) ∧ W.cell? ⟨g, i * 5 + 2, none⟩ = some (.slice A x.f1.f1.length c) ∧ W.cell? ⟨g, i * 5 + 3, none⟩ = some (.int .i64 x.f2.f0) ∧ W.cell? ⟨g, i * 5 + 4, none⟩ = some (.slice B x.f2.f1.length e) := by
 obtain ⟨ad, A2, c2, A4, c4, e, x0, x1, x2, x3, x4, l2, g2, l4, g4⟩ := at_T78 hC (i : Int) (by omega) (by omega)
 injection e with e
 subst e
 have hrd : rd_T78 l (i : Int) = x := by unfold rd_T78; rw [Int.toNat_natCast, List.getD_eq_getElem?_getD, hx]; rfl
 rw [hrd] at x0 x1 x2 x3 x4 l2 g2 l4 g4
 rw [Int.toNat_natCast, add_plain] at x0 x1 x2 x3 x4
 exact ⟨A2, c2, A4, c4, ⟨l2, g2, l4, g4⟩, x0, x1, x2, x3, x4⟩
set_option maxHeartbeats 8000000 in
set_option maxRecDepth 100000 in
theorem OrderRules_walk (l : List S81) (s : List S112) (A : Option Addr) (c : Nat) (As : Option Addr) (cs : Nat) (w : World) (hA : k81.C w A l.length l) (hc : l.length ≤ c) (hS : k112.C w As s.length s) (hcs : s.length ≤ cs) :
  Calls Try.prog 19 #[.slice A l.length c, .slice As s.length cs] w fun e w' => e = .returned (.bool true) ∧ Below w.heap.size w w' := by
 have hmx : Try.prog.follows .mixedOrders = true := by kernel_rfl
 obtain ⟨vc, hvc, hokc⟩ := Fine11_spec l 3 10 (by decide) (by decide)
 obtain ⟨vf, hvf, hokf⟩ := Fine07_spec s hS.2.1
 obtain ⟨k1, e1⟩ := hvc.rounds
 obtain ⟨k2, e2⟩ := hvf.rounds
 obtain ⟨kz, hal⟩ := alive14.rounds
 have FS := Az_.mk (And.intro (show soriteslaw11_Fine.f k1 l 3 10 = some vc from e1) e2)
 have hbA : Az_ (∀ w1, Below w.heap.size w w1 → k81.C w1 A l.length l) := ⟨fun w1 h => Kd.C_below hA h⟩
 have hbS : Az_ (∀ w1, Below w.heap.size w w1 → k112.C w1 As s.length s) := ⟨fun w1 h => Kd.C_below hS h⟩
 clear hA hS hvc hvf e1 e2
 go_enter Try.func19, Try.ntmps19
 cases vc with
 | false =>
  go_wp2_with (first | (go_at_call 55; refine (soriteslaw11_Fine.calls k1 _ _ l 3 10 _ _ (hbA.out _ hB1) hc FS.out.1).mono ?_; rintro e w2 ⟨rfl, hb⟩; have hB2 : Below w.heap.size w w2 := hB1.trans (hb.mono hB1.size); clear hb) | (go_at_call 54; refine (soriteslaw14_alive.calls kz true _ hal).mono ?_; rintro e w1 ⟨rfl, hb⟩; have hB1 : Below w.heap.size w w1 := hb; clear hb))
  go_ret
  exact ⟨rfl, hB2⟩
 | true =>
 obtain ⟨hn3, hlits⟩ := hokc rfl
 by_cases hlt : l.length < 3
 ·have d0 : decide ((l.length : Int) < 3) = true := decide_eq_true (by omega)
  clear hlt hn3
  go_wp2_with (first | (go_at_call 55; refine (soriteslaw11_Fine.calls k1 _ _ l 3 10 _ _ (hbA.out _ hB1) hc FS.out.1).mono ?_; rintro e w2 ⟨rfl, hb⟩; have hB2 : Below w.heap.size w w2 := hB1.trans (hb.mono hB1.size); clear hb) | (go_at_call 54; refine (soriteslaw14_alive.calls kz true _ hal).mono ?_; rintro e w1 ⟨rfl, hb⟩; have hB1 : Below w.heap.size w w1 := hb; clear hb))
  go_ret
  exact ⟨rfl, hB2⟩
 have d0 : decide ((l.length : Int) < 3) = false := decide_eq_false (by omega)
 have hl3 : l.length = 3 := by omega
 cases vf with
 | false =>
  clear hlt hn3 hl3
  go_wp2_with (first | (go_at_call 51; refine (soriteslaw07_Fine.calls k2 _ _ s _ _ (hbS.out _ hB2) hcs FS.out.2).mono ?_; rintro e w3 ⟨rfl, hb⟩; have hB3 : Below w.heap.size w w3 := hB2.trans (hb.mono hB2.size); clear hb) | (go_at_call 55; refine (soriteslaw11_Fine.calls k1 _ _ l 3 10 _ _ (hbA.out _ hB1) hc FS.out.1).mono ?_; rintro e w2 ⟨rfl, hb⟩; have hB2 : Below w.heap.size w w2 := hB1.trans (hb.mono hB1.size); clear hb) | (go_at_call 54; refine (soriteslaw14_alive.calls kz true _ hal).mono ?_; rintro e w1 ⟨rfl, hb⟩; have hB1 : Below w.heap.size w w1 := hb; clear hb))
  go_ret
  exact ⟨rfl, hB3⟩
 | true =>
 obtain ⟨hsl, hsb⟩ := hokf rfl
 obtain ⟨la, lb, ld, hll⟩ : ∃ la lb ld, l = [la, lb, ld] := by
  match l, hl3 with
  | [la, lb, ld], _ => exact ⟨la, lb, ld, rfl⟩
 obtain ⟨k3, e3⟩ := (Of11_spec l (by omega) (fun x hx => ⟨(hlits x hx).1, (hlits x hx).2.2.1⟩)).rounds
 have hfa : fitL la := (hlits la (by rw [hll]; simp)).fit (by decide)
 have hfb : fitL lb := (hlits lb (by rw [hll]; simp)).fit (by decide)
 have hfd : fitL ld := (hlits ld (by rw [hll]; simp)).fit (by decide)
 have FF := Az_.mk (And.intro hfa (And.intro hfb hfd))
 have FO := Az_.mk e3
 have HLL := Az_.mk hll
 have HL := Az_.mk hl3
 obtain ⟨u, hu⟩ : ∃ u, u = s.map toB := ⟨_, rfl⟩
 have hsm : ∀ b ∈ u, ok b.f1 ∧ (nodes b.f1).length ≤ 20 := by
  intro b hb
  rw [hu] at hb
  obtain ⟨b', hb', rfl⟩ := List.mem_map.1 hb
  obtain ⟨_, _, g3, g4⟩ := hsb b' hb'
  exact ⟨g3, by have := nodes_le b'.f1; show (nodes b'.f1).length ≤ 20; omega⟩
 have hul : u.length ≤ 1000 := by rw [hu, List.length_map]; omega
 obtain ⟨ko, eo⟩ := (Of07_spec s (by omega) (fun b hb => (hsb b hb).2.2.1)).rounds
 rw [← hu] at eo
 obtain ⟨kc, ec⟩ := (Clause_spec u hul (fun b hb => (hsm b hb).1) l (fun x hx => (hlits x hx).fit (by decide)) (by omega)).rounds
 have hfit : ∀ x : S78, x ∈ l → fitL (appL (appG u) x) := fun x hx => by
  obtain ⟨o1, n1, o2, n2⟩ := hlits x hx
  have m1 := nodes_le x.f1
  have m2 := nodes_le x.f2
  exact ⟨map_fit _ 20 (appG_small' u hsm) x.f1 (nums_ok x.f1 o1) (by omega), map_fit _ 20 (appG_small' u hsm) x.f2 (nums_ok x.f2 o2) (by omega)⟩
 have hya := hfit la (by rw [hll]; simp)
 have hyb := hfit lb (by rw [hll]; simp)
 rw [hll, List.map_cons, List.map_cons, List.map_cons, List.map_nil] at ec
 obtain ⟨ya, hyae⟩ : ∃ x, x = appL (appG u) la := ⟨_, rfl⟩
 obtain ⟨yb, hybe⟩ : ∃ x, x = appL (appG u) lb := ⟨_, rfl⟩
 obtain ⟨yd, hyde⟩ : ∃ x, x = appL (appG u) ld := ⟨_, rfl⟩
 have hst : grL la lb = true → grL ya yb = true := fun h => by rw [hyae, hybe]; exact grL_stable _ _ _ h
 rw [← hyae] at ec hya
 rw [← hybe] at ec hyb
 rw [← hyde] at ec
 have FY := Az_.mk (And.intro eo (And.intro ec (And.intro hya (And.intro hyb hst))))
 have htu := grL_turned la lb
 have hng := grL_neg la.f1 la.f2
 have HTU := Az_.mk (And.intro htu hng)
 clear hlt hn3 hl3 hlits hfa hfb hfd hll e3 hu hsm hul hsl hsb eo ec hfit hya hyb hyae hybe hyde hst htu hng
 go_wp2_with (first | (go_at_call 56; refine (soriteslaw11_Of.calls k3 _ _ l l w3 (hbA.out _ hB3) hc FO.out).mono ?_; rintro e w4 ⟨v0, rfl, hR, hb⟩; obtain ⟨g0, cp, hv0, hg0, hg0l, _⟩ := Kd.R_form hR (by rw [HL.out]; decide); rw [HL.out] at hv0; subst hv0; have HC := Az_.mk (Kd.R_reads' hR).2.2; have HCP := Az_.mk (Kd.R_reads' hR).2.1; have hB4 := Az_.mk (hB3.trans (hb.mono hB3.size)); clear hb hR) | (go_at_call 51; refine (soriteslaw07_Fine.calls k2 _ _ s _ _ (hbS.out _ hB2) hcs FS.out.2).mono ?_; rintro e w3 ⟨rfl, hb⟩; have hB3 : Below w.heap.size w w3 := hB2.trans (hb.mono hB2.size); clear hb) | (go_at_call 55; refine (soriteslaw11_Fine.calls k1 _ _ l 3 10 _ _ (hbA.out _ hB1) hc FS.out.1).mono ?_; rintro e w2 ⟨rfl, hb⟩; have hB2 : Below w.heap.size w w2 := hB1.trans (hb.mono hB1.size); clear hb) | (go_at_call 54; refine (soriteslaw14_alive.calls kz true _ hal).mono ?_; rintro e w1 ⟨rfl, hb⟩; have hB1 : Below w.heap.size w w1 := hb; clear hb))
 have hC4 := HC.out
 rw [HLL.out] at hC4
 obtain ⟨A1, c1, A2, c2, La, a0, a1, a2, a3, a4⟩ := lit_at hC4 0 (by simp) la rfl
 obtain ⟨B1, d1, B2, d2, Lb, b0, b1, b2, b3, b4⟩ := lit_at hC4 1 (by simp) lb rfl
 obtain ⟨D1, e1, D2, e2, Ld, x0, x1, x2, x3, x4⟩ := lit_at hC4 2 (by simp) ld rfl
 have hcp : 3 ≤ cp := HCP.out
 refine OrderRules_r6 (g0 := g0) (cp := cp) (by kernel_rfl) rfl hcp a0 a1 a2 a3 a4 b0 b1 b2 b3 b4 x0 x1 x2 x3 x4 ?_
 intro v w6 ga gb gd hv9 hv10 hv11 hga hgb hgd n1 n2 n3 hba hbb hbd hb6
 simp only [layL, Nat.reduceAdd, List.setIfInBounds_toArray, List.set_cons_zero, List.set_cons_succ, hv9, hv10, hv11]
 clear hv9 hv10 hv11
 generalize v 0 = s0
 generalize v 1 = s1
 generalize v 2 = s2
 generalize v 3 = s3
 generalize v 4 = s4
 generalize v 5 = s5
 generalize v 6 = s6
 generalize v 7 = s7
 generalize v 8 = s8
 generalize v 12 = s12
 generalize v 13 = s13
 generalize v 14 = s14
 clear v a0 a1 a2 a3 a4 b0 b1 b2 b3 b4 x0 x1 x2 x3 x4 d0
 have HB6 := Az_.mk (hB4.out.trans (hb6.mono hB4.out.size))
 have HC6 : Az_ (k78.C w6 (some ⟨g0, 0, none⟩) [la, lb, ld].length [la, lb, ld]) := ⟨Kd.C_below hC4 hb6⟩
 have LA := Az_.mk (La.below hb6)
 have LB := Az_.mk (Lb.below hb6)
 have LD := Az_.mk (Ld.below hb6)
 have BA := Az_.mk hba
 have BB := Az_.mk hbb
 have BD := Az_.mk hbd
 have w6a0 : w6.cell? ⟨ga, 0, none⟩ = some (.bool la.f0) := (yaa_ (BA.out) 0).trans rfl
 have w6a1 : w6.cell? ⟨ga, 1, none⟩ = some (.int .i64 la.f1.f0) := (yaa_ (BA.out) 1).trans rfl
 have w6a2 : w6.cell? ⟨ga, 2, none⟩ = some (.slice A1 la.f1.f1.length c1) := (yaa_ (BA.out) 2).trans rfl
 have w6a3 : w6.cell? ⟨ga, 3, none⟩ = some (.int .i64 la.f2.f0) := (yaa_ (BA.out) 3).trans rfl
 have w6a4 : w6.cell? ⟨ga, 4, none⟩ = some (.slice A2 la.f2.f1.length c2) := (yaa_ (BA.out) 4).trans rfl
 have w6b0 : w6.cell? ⟨gb, 0, none⟩ = some (.bool lb.f0) := (yaa_ (BB.out) 0).trans rfl
 have w6b1 : w6.cell? ⟨gb, 1, none⟩ = some (.int .i64 lb.f1.f0) := (yaa_ (BB.out) 1).trans rfl
 have w6b2 : w6.cell? ⟨gb, 2, none⟩ = some (.slice B1 lb.f1.f1.length d1) := (yaa_ (BB.out) 2).trans rfl
 have w6b3 : w6.cell? ⟨gb, 3, none⟩ = some (.int .i64 lb.f2.f0) := (yaa_ (BB.out) 3).trans rfl
 have w6b4 : w6.cell? ⟨gb, 4, none⟩ = some (.slice B2 lb.f2.f1.length d2) := (yaa_ (BB.out) 4).trans rfl
 have w6d0 : w6.cell? ⟨gd, 0, none⟩ = some (.bool ld.f0) := (yaa_ (BD.out) 0).trans rfl
 have w6d1 : w6.cell? ⟨gd, 1, none⟩ = some (.int .i64 ld.f1.f0) := (yaa_ (BD.out) 1).trans rfl
 have w6d2 : w6.cell? ⟨gd, 2, none⟩ = some (.slice D1 ld.f1.f1.length e1) := (yaa_ (BD.out) 2).trans rfl
 have w6d3 : w6.cell? ⟨gd, 3, none⟩ = some (.int .i64 ld.f2.f0) := (yaa_ (BD.out) 3).trans rfl
 have w6d4 : w6.cell? ⟨gd, 4, none⟩ = some (.slice D2 ld.f2.f1.length e2) := (yaa_ (BD.out) 4).trans rfl
 obtain ⟨vab, hvab⟩ : ∃ x, x = grL la lb := ⟨_, rfl⟩
 obtain ⟨vbd, hvbd⟩ : ∃ x, x = grL lb ld := ⟨_, rfl⟩
 have eaa : Az_ (grL la la = false) := ⟨grL_irrefl la⟩
 have eab := Az_.mk hvab.symm
 have ebd := Az_.mk hvbd.symm
 have HCP2 := Az_.mk hcp
 clear La Lb Ld hba hbb hbd hb6 hga hgb hgd n1 n2 n3 hvab hvbd HC HCP hC4 hB3 hB2 hB1 hcp hg0 hg0l
 cases vab with
 | false =>
  go_wp2_with (first | (go_at_call 71; refine (clause_Apply.calls kc _ _ u _ cp [la, lb, ld] [ya, yb, yd] z1 HAU.out.2 HAU.out.1 (Kd.C_below HC6.out HZ1.out) HCP2.out FY.out.2.1).mono ?_; rintro e z2 ⟨v1, rfl, hR, hb⟩; obtain ⟨g1, cq, hv1, _, _, _⟩ := Kd.R_form hR (by simp); replace hv1 : v1 = .slice (some ⟨g1, 0, none⟩) 3 cq := hv1; subst hv1; have HCY := Az_.mk (Kd.R_reads' hR).2; have HZ2 := Az_.mk (HZ1.out.trans (hb.mono HZ1.out.size)); clear hb hR) | (go_at_call 52; refine (soriteslaw07_Of.calls ko _ _ s u u3 (hbS.out _ (HB6.out.trans (HU3.out.mono HB6.out.size))) hcs FY.out.1).mono ?_; rintro e z1 ⟨v0, rfl, hR, hb⟩; obtain ⟨Au, cu, hv0⟩ := Kd.R_slice hR; subst hv0; have HAU := Az_.mk (Kd.R_reads' hR).2; have HZ1 := Az_.mk (HU3.out.trans (hb.mono HU3.out.size)); clear hb hR) | (go_at_call 66; have hcl := Gr_calls (W := u2) FF.out.1 FF.out.2.1 (LA.out.below HU2.out) (LB.out.below HU2.out); rw [eab.out] at hcl; refine hcl.mono ?_; clear hcl; rintro e u3 ⟨rfl, hb⟩; have HU3 := Az_.mk (show Below w6.heap.size w6 u3 from HU2.out.trans (hb.mono HU2.out.size)); clear hb; have u3a0 : u3.cell? ⟨ga, 0, none⟩ = some (.bool la.f0) := (yaa_ (kB_ BA.out HU3.out) 0).trans rfl; have u3a1 : u3.cell? ⟨ga, 1, none⟩ = some (.int .i64 la.f1.f0) := (yaa_ (kB_ BA.out HU3.out) 1).trans rfl; have u3a2 : u3.cell? ⟨ga, 2, none⟩ = some (.slice A1 la.f1.f1.length c1) := (yaa_ (kB_ BA.out HU3.out) 2).trans rfl; have u3a3 : u3.cell? ⟨ga, 3, none⟩ = some (.int .i64 la.f2.f0) := (yaa_ (kB_ BA.out HU3.out) 3).trans rfl; have u3a4 : u3.cell? ⟨ga, 4, none⟩ = some (.slice A2 la.f2.f1.length c2) := (yaa_ (kB_ BA.out HU3.out) 4).trans rfl; have u3b0 : u3.cell? ⟨gb, 0, none⟩ = some (.bool lb.f0) := (yaa_ (kB_ BB.out HU3.out) 0).trans rfl; have u3b1 : u3.cell? ⟨gb, 1, none⟩ = some (.int .i64 lb.f1.f0) := (yaa_ (kB_ BB.out HU3.out) 1).trans rfl; have u3b2 : u3.cell? ⟨gb, 2, none⟩ = some (.slice B1 lb.f1.f1.length d1) := (yaa_ (kB_ BB.out HU3.out) 2).trans rfl; have u3b3 : u3.cell? ⟨gb, 3, none⟩ = some (.int .i64 lb.f2.f0) := (yaa_ (kB_ BB.out HU3.out) 3).trans rfl; have u3b4 : u3.cell? ⟨gb, 4, none⟩ = some (.slice B2 lb.f2.f1.length d2) := (yaa_ (kB_ BB.out HU3.out) 4).trans rfl; have u3d0 : u3.cell? ⟨gd, 0, none⟩ = some (.bool ld.f0) := (yaa_ (kB_ BD.out HU3.out) 0).trans rfl; have u3d1 : u3.cell? ⟨gd, 1, none⟩ = some (.int .i64 ld.f1.f0) := (yaa_ (kB_ BD.out HU3.out) 1).trans rfl; have u3d2 : u3.cell? ⟨gd, 2, none⟩ = some (.slice D1 ld.f1.f1.length e1) := (yaa_ (kB_ BD.out HU3.out) 2).trans rfl; have u3d3 : u3.cell? ⟨gd, 3, none⟩ = some (.int .i64 ld.f2.f0) := (yaa_ (kB_ BD.out HU3.out) 3).trans rfl; have u3d4 : u3.cell? ⟨gd, 4, none⟩ = some (.slice D2 ld.f2.f1.length e2) := (yaa_ (kB_ BD.out HU3.out) 4).trans rfl) | (go_at_call 66; have hcl := Gr_calls (W := u1) FF.out.1 FF.out.2.1 (LA.out.below HU1.out) (LB.out.below HU1.out); rw [eab.out] at hcl; refine hcl.mono ?_; clear hcl; rintro e u2 ⟨rfl, hb⟩; have HU2 := Az_.mk (show Below w6.heap.size w6 u2 from HU1.out.trans (hb.mono HU1.out.size)); clear hb; have u2a0 : u2.cell? ⟨ga, 0, none⟩ = some (.bool la.f0) := (yaa_ (kB_ BA.out HU2.out) 0).trans rfl; have u2a1 : u2.cell? ⟨ga, 1, none⟩ = some (.int .i64 la.f1.f0) := (yaa_ (kB_ BA.out HU2.out) 1).trans rfl; have u2a2 : u2.cell? ⟨ga, 2, none⟩ = some (.slice A1 la.f1.f1.length c1) := (yaa_ (kB_ BA.out HU2.out) 2).trans rfl; have u2a3 : u2.cell? ⟨ga, 3, none⟩ = some (.int .i64 la.f2.f0) := (yaa_ (kB_ BA.out HU2.out) 3).trans rfl; have u2a4 : u2.cell? ⟨ga, 4, none⟩ = some (.slice A2 la.f2.f1.length c2) := (yaa_ (kB_ BA.out HU2.out) 4).trans rfl; have u2b0 : u2.cell? ⟨gb, 0, none⟩ = some (.bool lb.f0) := (yaa_ (kB_ BB.out HU2.out) 0).trans rfl; have u2b1 : u2.cell? ⟨gb, 1, none⟩ = some (.int .i64 lb.f1.f0) := (yaa_ (kB_ BB.out HU2.out) 1).trans rfl; have u2b2 : u2.cell? ⟨gb, 2, none⟩ = some (.slice B1 lb.f1.f1.length d1) := (yaa_ (kB_ BB.out HU2.out) 2).trans rfl; have u2b3 : u2.cell? ⟨gb, 3, none⟩ = some (.int .i64 lb.f2.f0) := (yaa_ (kB_ BB.out HU2.out) 3).trans rfl; have u2b4 : u2.cell? ⟨gb, 4, none⟩ = some (.slice B2 lb.f2.f1.length d2) := (yaa_ (kB_ BB.out HU2.out) 4).trans rfl; have u2d0 : u2.cell? ⟨gd, 0, none⟩ = some (.bool ld.f0) := (yaa_ (kB_ BD.out HU2.out) 0).trans rfl; have u2d1 : u2.cell? ⟨gd, 1, none⟩ = some (.int .i64 ld.f1.f0) := (yaa_ (kB_ BD.out HU2.out) 1).trans rfl; have u2d2 : u2.cell? ⟨gd, 2, none⟩ = some (.slice D1 ld.f1.f1.length e1) := (yaa_ (kB_ BD.out HU2.out) 2).trans rfl; have u2d3 : u2.cell? ⟨gd, 3, none⟩ = some (.int .i64 ld.f2.f0) := (yaa_ (kB_ BD.out HU2.out) 3).trans rfl; have u2d4 : u2.cell? ⟨gd, 4, none⟩ = some (.slice D2 ld.f2.f1.length e2) := (yaa_ (kB_ BD.out HU2.out) 4).trans rfl) | (go_at_call 66; have hcl := Gr_calls (W := w6) FF.out.1 FF.out.1 (LA.out.below (Below.refl _ _)) (LA.out.below (Below.refl _ _)); rw [eaa.out] at hcl; refine hcl.mono ?_; clear hcl; rintro e u1 ⟨rfl, hb⟩; have HU1 := Az_.mk (show Below w6.heap.size w6 u1 from hb); clear hb; have u1a0 : u1.cell? ⟨ga, 0, none⟩ = some (.bool la.f0) := (yaa_ (kB_ BA.out HU1.out) 0).trans rfl; have u1a1 : u1.cell? ⟨ga, 1, none⟩ = some (.int .i64 la.f1.f0) := (yaa_ (kB_ BA.out HU1.out) 1).trans rfl; have u1a2 : u1.cell? ⟨ga, 2, none⟩ = some (.slice A1 la.f1.f1.length c1) := (yaa_ (kB_ BA.out HU1.out) 2).trans rfl; have u1a3 : u1.cell? ⟨ga, 3, none⟩ = some (.int .i64 la.f2.f0) := (yaa_ (kB_ BA.out HU1.out) 3).trans rfl; have u1a4 : u1.cell? ⟨ga, 4, none⟩ = some (.slice A2 la.f2.f1.length c2) := (yaa_ (kB_ BA.out HU1.out) 4).trans rfl; have u1b0 : u1.cell? ⟨gb, 0, none⟩ = some (.bool lb.f0) := (yaa_ (kB_ BB.out HU1.out) 0).trans rfl; have u1b1 : u1.cell? ⟨gb, 1, none⟩ = some (.int .i64 lb.f1.f0) := (yaa_ (kB_ BB.out HU1.out) 1).trans rfl; have u1b2 : u1.cell? ⟨gb, 2, none⟩ = some (.slice B1 lb.f1.f1.length d1) := (yaa_ (kB_ BB.out HU1.out) 2).trans rfl; have u1b3 : u1.cell? ⟨gb, 3, none⟩ = some (.int .i64 lb.f2.f0) := (yaa_ (kB_ BB.out HU1.out) 3).trans rfl; have u1b4 : u1.cell? ⟨gb, 4, none⟩ = some (.slice B2 lb.f2.f1.length d2) := (yaa_ (kB_ BB.out HU1.out) 4).trans rfl; have u1d0 : u1.cell? ⟨gd, 0, none⟩ = some (.bool ld.f0) := (yaa_ (kB_ BD.out HU1.out) 0).trans rfl; have u1d1 : u1.cell? ⟨gd, 1, none⟩ = some (.int .i64 ld.f1.f0) := (yaa_ (kB_ BD.out HU1.out) 1).trans rfl; have u1d2 : u1.cell? ⟨gd, 2, none⟩ = some (.slice D1 ld.f1.f1.length e1) := (yaa_ (kB_ BD.out HU1.out) 2).trans rfl; have u1d3 : u1.cell? ⟨gd, 3, none⟩ = some (.int .i64 ld.f2.f0) := (yaa_ (kB_ BD.out HU1.out) 3).trans rfl; have u1d4 : u1.cell? ⟨gd, 4, none⟩ = some (.slice D2 ld.f2.f1.length e2) := (yaa_ (kB_ BD.out HU1.out) 4).trans rfl))
  have hcq : 3 ≤ cq := HCY.out.1
  obtain ⟨Y1, p1, Y2, p2, Lya, a0, a1, a2, a3, a4⟩ := lit_at HCY.out.2 0 (by simp) ya rfl
  obtain ⟨Z1, q1, Z2, q2, Lyb, b0, b1, b2, b3, b4⟩ := lit_at HCY.out.2 1 (by simp) yb rfl
  refine OrderRules_r10f (ga := ga) (gb := gb) (g0 := g1) (cp := cq) (by kernel_rfl) rfl rfl (kB_ BA.out HZ2.out) rfl (kB_ BB.out HZ2.out) ?_ ?_
  ·intro w1 hb; have h := Gr_calls (W := w1) FF.out.1 FF.out.2.1 (LA.out.below (HZ2.out.trans (hb.mono HZ2.out.size))) (LB.out.below (HZ2.out.trans (hb.mono HZ2.out.size))); rw [eab.out] at h; exact h
  intro v z3 hb3 hv12
  simp only [layL, Nat.reduceAdd, List.setIfInBounds_toArray, List.set_cons_zero, List.set_cons_succ, hv12]
  clear hv12
  generalize v 0 = x0
  generalize v 1 = x1
  generalize v 2 = x2
  generalize v 3 = x3
  generalize v 4 = x4
  generalize v 5 = x5
  generalize v 6 = x6
  generalize v 7 = x7
  generalize v 8 = x8
  generalize v 9 = x9
  generalize v 10 = x10
  generalize v 11 = x11
  clear v a0 a1 a2 a3 a4 b0 b1 b2 b3 b4 Lya Lyb
  have HZ3 := Az_.mk (HZ2.out.trans (hb3.mono HZ2.out.size))
  clear hb3
  go_wp2
  refine OrderRules_r12 (ga := ga) (by kernel_rfl) rfl (kB_ BA.out HZ3.out) ?_
  intro v z4 gp gq hv2 hv3 hgp hgq hpq hbp hbq hb4
  simp only [layL, Nat.reduceAdd, List.setIfInBounds_toArray, List.set_cons_zero, List.set_cons_succ, hv2, hv3]
  clear hv2 hv3
  generalize v 0 = y0
  generalize v 1 = y1
  clear v
  have hZ4 := HZ3.out.trans (hb4.mono HZ3.out.size)
  have hba4 := kB_ BA.out hZ4
  have hbb4 := kB_ BB.out hZ4
  have gap : ga ≠ gp := fun e => by have := blk_lt (kB_ BA.out HZ3.out); omega
  have gaq : ga ≠ gq := fun e => by have := blk_lt (kB_ BA.out HZ3.out); omega
  have gbp : gb ≠ gp := fun e => by have := blk_lt (kB_ BB.out HZ3.out); omega
  have gbq : gb ≠ gq := fun e => by have := blk_lt (kB_ BB.out HZ3.out); omega
  have p0 : z4.cell? ⟨gp, 0, none⟩ = some (.bool la.f0) := (yaa_ hbp 0).trans rfl
  have pz := yab_ hbp 0
  have hbq1 : (z4.setCell ⟨gp, 0, none⟩ (.bool false)).heap[gq]? = _ := (Below.heap_setCell z4 ⟨gp, 0, none⟩ (.bool false) gq (by show gq ≠ gp; omega)).trans hbq
  have q0 : (z4.setCell ⟨gp, 0, none⟩ (.bool false)).cell? ⟨gq, 0, none⟩ = some (.bool la.f0) := (yaa_ hbq1 0).trans rfl
  have qz := yab_ hbq1 0
  obtain ⟨z5, hz5⟩ : ∃ x, x = (z4.setCell ⟨gp, 0, none⟩ (.bool false)).setCell ⟨gq, 0, none⟩ (.bool true) := ⟨_, rfl⟩
  have hfar : ∀ k, k ≠ gp → k ≠ gq → z5.heap[k]? = z4.heap[k]? := fun k h1 h2 => by rw [hz5]; exact (Below.heap_setCell _ _ _ k (by show k ≠ gq; omega)).trans (Below.heap_setCell _ _ _ k (by show k ≠ gp; omega))
  have hbp5 : z5.heap[gp]? = some (.cells #[.bool false, .int .i64 la.f1.f0, .slice A1 la.f1.f1.length c1, .int .i64 la.f2.f0, .slice A2 la.f2.f1.length c2] 78 (0, 0)) := by rw [hz5]; exact (Below.heap_setCell _ _ _ gp (by show gp ≠ gq; omega)).trans ((blk_set hbp 0 _).trans rfl)
  have hbq5 : z5.heap[gq]? = some (.cells #[.bool true, .int .i64 la.f1.f0, .slice A1 la.f1.f1.length c1, .int .i64 la.f2.f0, .slice A2 la.f2.f1.length c2] 78 (0, 0)) := by rw [hz5]; exact (blk_set hbq1 0 _).trans rfl
  have hba5 := (hfar ga gap gaq).trans hba4
  have hbb5 := (hfar gb gbp gbq).trans hbb4
  have hs5 : z5.heap.size = z4.heap.size := by rw [hz5, setCell_size, setCell_size]
  have hZ5 : Below w6.heap.size w6 z5 := by
   have h1 : w6.heap.size ≤ gp := Nat.le_trans HZ3.out.size hgp
   have h2 : w6.heap.size ≤ gq := Nat.le_trans HZ3.out.size hgq
   rw [hz5]
   exact (hZ4.setCell h1 _).setCell h2 _
  have m0 : z5.cell? ⟨gb, 0, none⟩ = some (.bool lb.f0) := (yaa_ hbb5 0).trans rfl
  have m1 : z5.cell? ⟨gb, 1, none⟩ = some (.int .i64 lb.f1.f0) := (yaa_ hbb5 1).trans rfl
  have m2 : z5.cell? ⟨gb, 2, none⟩ = some (.slice B1 lb.f1.f1.length d1) := (yaa_ hbb5 2).trans rfl
  have m3 : z5.cell? ⟨gb, 3, none⟩ = some (.int .i64 lb.f2.f0) := (yaa_ hbb5 3).trans rfl
  have m4 : z5.cell? ⟨gb, 4, none⟩ = some (.slice B2 lb.f2.f1.length d2) := (yaa_ hbb5 4).trans rfl
  have HZZ := Az_.mk hz5
  rw [hz5] at m0 m1 m2 m3 m4
  clear hz5 hfar hba4 hbb4 gap gaq gbp gbq hb4 hgp hgq hbp hbq
  go_wp2
  have hbt := heap_alloc_new z5 (.cells #[.bool lb.f0, .int .i64 lb.f2.f0, .slice B2 lb.f2.f1.length d2, .int .i64 lb.f1.f0, .slice B1 lb.f1.f1.length d1] 78)
  rw [hs5] at hbt
  have hb56 := bA_ (Below.refl z5.heap.size z5) (.cells #[.bool lb.f0, .int .i64 lb.f2.f0, .slice B2 lb.f2.f1.length d2, .int .i64 lb.f1.f0, .slice B1 lb.f1.f1.length d1] 78)
  rw [← HZZ.out]
  obtain ⟨z6, hz6⟩ : ∃ x, x = z5.alloc (.cells #[.bool lb.f0, .int .i64 lb.f2.f0, .slice B2 lb.f2.f1.length d2, .int .i64 lb.f1.f0, .slice B1 lb.f1.f1.length d1] 78) := ⟨_, rfl⟩
  rw [← hz6] at hbt hb56 ⊢
  have HZ6 := Az_.mk (hZ5.trans (hb56.mono hZ5.size))
  have hs6 : Az_ (z5.heap.size = ((z4.setCell ⟨gp, 0, none⟩ (.bool false)).setCell ⟨gq, 0, none⟩ (.bool true)).heap.size) := ⟨by rw [← HZZ.out]⟩
  clear hz6 p0 pz q0 qz hbq1 m0 m1 m2 m3 m4
  refine OrderRules_r15 (ga := ga) (gb := gb) (gp := gp) (gn := gq) (gt := z4.heap.size) (b := false) (p0 := false) (n0 := true) (tl := [la.f1, la.f1, la.f2, la.f2]) (by kernel_rfl) rfl (kB_ hba5 hb56) rfl (kB_ hbb5 hb56) rfl (kB_ hbp5 hb56) rfl (kB_ hbq5 hb56) rfl hbt ?_ ?_ ?_ ?_ ?_ ?_ ?_ ?_
  ·intro w1 hb; have h := Gr_calls (x := ⟨true, la.f1, la.f2⟩) (y := ⟨false, la.f1, la.f2⟩) (W := w1) FF.out.1 FF.out.1 (let L := LA.out.below (HZ6.out.trans (hb.mono HZ6.out.size)); ⟨L.l1, L.c1, L.l2, L.c2⟩) (let L := LA.out.below (HZ6.out.trans (hb.mono HZ6.out.size)); ⟨L.l1, L.c1, L.l2, L.c2⟩); rw [HTU.out.2.1] at h; exact h
  ·intro w1 hb; have h := Gr_calls (x := ⟨false, la.f1, la.f2⟩) (y := ⟨true, la.f1, la.f2⟩) (W := w1) FF.out.1 FF.out.1 (let L := LA.out.below (HZ6.out.trans (hb.mono HZ6.out.size)); ⟨L.l1, L.c1, L.l2, L.c2⟩) (let L := LA.out.below (HZ6.out.trans (hb.mono HZ6.out.size)); ⟨L.l1, L.c1, L.l2, L.c2⟩); rw [HTU.out.2.2] at h; exact h
  ·intro w1 hb; have h := Gr_calls (W := w1) FF.out.1 FF.out.2.1 (LA.out.below (HZ6.out.trans (hb.mono HZ6.out.size))) (LB.out.below (HZ6.out.trans (hb.mono HZ6.out.size))); rw [eab.out] at h; exact h
  ·intro w1 hb; have h := Gr_calls (x := la) (y := ⟨lb.f0, lb.f2, lb.f1⟩) (W := w1) FF.out.1 ⟨FF.out.2.1.2, FF.out.2.1.1⟩ (LA.out.below (HZ6.out.trans (hb.mono HZ6.out.size))) (let L := LB.out.below (HZ6.out.trans (hb.mono HZ6.out.size)); ⟨L.l2, L.c2, L.l1, L.c1⟩); rw [HTU.out.1, eab.out] at h; exact h
  ·intro w1 hb
   have L := LA.out.below (HZ6.out.trans (hb.mono HZ6.out.size))
   exact (order_Terms.calls true la.f1.f0 (fun _ => True) A1 c1 la.f1.f1 la.f2.f0 (fun _ => True) A2 c2 la.f2.f1 [la.f1, la.f1, la.f2, la.f2] w1 (Kd.V_mk L.l1 (Kd.F_mono (F_old k30_heap L.c1 (Below.refl _ _)) (fun _ _ => trivial))) (Kd.V_mk L.l2 (Kd.F_mono (F_old k30_heap L.c2 (Below.refl _ _)) (fun _ _ => trivial))) (by have := OTerms_of ⟨true, la.f1, la.f2⟩; exact this)).mono (fun e w2 h => by obtain ⟨v1, h1, h2, h3⟩ := h; obtain ⟨A9, c9, h9⟩ := Kd.N_slice h2; subst h9; exact ⟨_, h1, ⟨A9, c9, rfl, (Kd.N_reads' h2).2.1, (Kd.N_reads' h2).2.2⟩, h3⟩)
  ·intro w1 hb; exact Multi.calls [] [] none 0 none 0 w1 (Kd.C_nil k30 w1) (Nat.le_refl _) (Kd.C_nil k30 w1) (Nat.le_refl _) (fun x hx => by cases hx) (fun x hx => by cases hx) (by decide) (by decide)
  ·intro w1 A' c' hb hl hC
   have h := Multi.calls [la.f1, la.f1, la.f2, la.f2] [] A' c' none 0 w1 hC hl (Kd.C_nil k30 w1) (Nat.le_refl _) (by intro x hx; simp at hx; rcases hx with rfl | rfl | rfl | rfl <;> first | exact FF.out.1.1 | exact FF.out.1.2) (fun x hx => by cases hx) (by simp) (by simp)
   rw [multi_nil (List.cons_ne_nil _ _)] at h
   exact h
  intro v z7 hb7 hv27
  simp only [layL, Nat.reduceAdd, List.setIfInBounds_toArray, List.set_cons_zero, List.set_cons_succ, hv27]
  clear hv27
  generalize v 0 = t0
  generalize v 1 = t1
  generalize v 2 = t2
  generalize v 3 = t3
  generalize v 4 = t4
  generalize v 5 = t5
  generalize v 6 = t6
  generalize v 7 = t7
  generalize v 8 = t8
  generalize v 9 = t9
  generalize v 10 = t10
  generalize v 11 = t11
  generalize v 12 = t12
  generalize v 13 = t13
  generalize v 14 = t14
  generalize v 15 = t15
  generalize v 16 = t16
  generalize v 17 = t17
  generalize v 18 = t18
  generalize v 19 = t19
  generalize v 20 = t20
  generalize v 21 = t21
  generalize v 22 = t22
  generalize v 23 = t23
  generalize v 24 = t24
  generalize v 25 = t25
  generalize v 26 = t26
  clear v
  have HZ7 := Az_.mk (HB6.out.trans ((HZ6.out.trans (hb7.mono HZ6.out.size)).mono HB6.out.size))
  clear hb7
  go_wp2
  go_ret
  exact ⟨rfl, HZ7.out⟩
 | true =>
  have eba : Az_ (grL lb la = false) := ⟨grL_asymm eab.out⟩
  cases vbd with
  | false =>
   go_wp2_with (first | (go_at_call 71; refine (clause_Apply.calls kc _ _ u _ cp [la, lb, ld] [ya, yb, yd] z1 HAU.out.2 HAU.out.1 (Kd.C_below HC6.out HZ1.out) HCP2.out FY.out.2.1).mono ?_; rintro e z2 ⟨v1, rfl, hR, hb⟩; obtain ⟨g1, cq, hv1, _, _, _⟩ := Kd.R_form hR (by simp); replace hv1 : v1 = .slice (some ⟨g1, 0, none⟩) 3 cq := hv1; subst hv1; have HCY := Az_.mk (Kd.R_reads' hR).2; have HZ2 := Az_.mk (HZ1.out.trans (hb.mono HZ1.out.size)); clear hb hR) | (go_at_call 52; refine (soriteslaw07_Of.calls ko _ _ s u u5 (hbS.out _ (HB6.out.trans (HU5.out.mono HB6.out.size))) hcs FY.out.1).mono ?_; rintro e z1 ⟨v0, rfl, hR, hb⟩; obtain ⟨Au, cu, hv0⟩ := Kd.R_slice hR; subst hv0; have HAU := Az_.mk (Kd.R_reads' hR).2; have HZ1 := Az_.mk (HU5.out.trans (hb.mono HU5.out.size)); clear hb hR) | (go_at_call 66; have hcl := Gr_calls (W := u4) FF.out.2.1 FF.out.2.2 (LB.out.below HU4.out) (LD.out.below HU4.out); rw [ebd.out] at hcl; refine hcl.mono ?_; clear hcl; rintro e u5 ⟨rfl, hb⟩; have HU5 := Az_.mk (show Below w6.heap.size w6 u5 from HU4.out.trans (hb.mono HU4.out.size)); clear hb; have u5a0 : u5.cell? ⟨ga, 0, none⟩ = some (.bool la.f0) := (yaa_ (kB_ BA.out HU5.out) 0).trans rfl; have u5a1 : u5.cell? ⟨ga, 1, none⟩ = some (.int .i64 la.f1.f0) := (yaa_ (kB_ BA.out HU5.out) 1).trans rfl; have u5a2 : u5.cell? ⟨ga, 2, none⟩ = some (.slice A1 la.f1.f1.length c1) := (yaa_ (kB_ BA.out HU5.out) 2).trans rfl; have u5a3 : u5.cell? ⟨ga, 3, none⟩ = some (.int .i64 la.f2.f0) := (yaa_ (kB_ BA.out HU5.out) 3).trans rfl; have u5a4 : u5.cell? ⟨ga, 4, none⟩ = some (.slice A2 la.f2.f1.length c2) := (yaa_ (kB_ BA.out HU5.out) 4).trans rfl; have u5b0 : u5.cell? ⟨gb, 0, none⟩ = some (.bool lb.f0) := (yaa_ (kB_ BB.out HU5.out) 0).trans rfl; have u5b1 : u5.cell? ⟨gb, 1, none⟩ = some (.int .i64 lb.f1.f0) := (yaa_ (kB_ BB.out HU5.out) 1).trans rfl; have u5b2 : u5.cell? ⟨gb, 2, none⟩ = some (.slice B1 lb.f1.f1.length d1) := (yaa_ (kB_ BB.out HU5.out) 2).trans rfl; have u5b3 : u5.cell? ⟨gb, 3, none⟩ = some (.int .i64 lb.f2.f0) := (yaa_ (kB_ BB.out HU5.out) 3).trans rfl; have u5b4 : u5.cell? ⟨gb, 4, none⟩ = some (.slice B2 lb.f2.f1.length d2) := (yaa_ (kB_ BB.out HU5.out) 4).trans rfl; have u5d0 : u5.cell? ⟨gd, 0, none⟩ = some (.bool ld.f0) := (yaa_ (kB_ BD.out HU5.out) 0).trans rfl; have u5d1 : u5.cell? ⟨gd, 1, none⟩ = some (.int .i64 ld.f1.f0) := (yaa_ (kB_ BD.out HU5.out) 1).trans rfl; have u5d2 : u5.cell? ⟨gd, 2, none⟩ = some (.slice D1 ld.f1.f1.length e1) := (yaa_ (kB_ BD.out HU5.out) 2).trans rfl; have u5d3 : u5.cell? ⟨gd, 3, none⟩ = some (.int .i64 ld.f2.f0) := (yaa_ (kB_ BD.out HU5.out) 3).trans rfl; have u5d4 : u5.cell? ⟨gd, 4, none⟩ = some (.slice D2 ld.f2.f1.length e2) := (yaa_ (kB_ BD.out HU5.out) 4).trans rfl) | (go_at_call 66; have hcl := Gr_calls (W := u3) FF.out.1 FF.out.2.1 (LA.out.below HU3.out) (LB.out.below HU3.out); rw [eab.out] at hcl; refine hcl.mono ?_; clear hcl; rintro e u4 ⟨rfl, hb⟩; have HU4 := Az_.mk (show Below w6.heap.size w6 u4 from HU3.out.trans (hb.mono HU3.out.size)); clear hb; have u4a0 : u4.cell? ⟨ga, 0, none⟩ = some (.bool la.f0) := (yaa_ (kB_ BA.out HU4.out) 0).trans rfl; have u4a1 : u4.cell? ⟨ga, 1, none⟩ = some (.int .i64 la.f1.f0) := (yaa_ (kB_ BA.out HU4.out) 1).trans rfl; have u4a2 : u4.cell? ⟨ga, 2, none⟩ = some (.slice A1 la.f1.f1.length c1) := (yaa_ (kB_ BA.out HU4.out) 2).trans rfl; have u4a3 : u4.cell? ⟨ga, 3, none⟩ = some (.int .i64 la.f2.f0) := (yaa_ (kB_ BA.out HU4.out) 3).trans rfl; have u4a4 : u4.cell? ⟨ga, 4, none⟩ = some (.slice A2 la.f2.f1.length c2) := (yaa_ (kB_ BA.out HU4.out) 4).trans rfl; have u4b0 : u4.cell? ⟨gb, 0, none⟩ = some (.bool lb.f0) := (yaa_ (kB_ BB.out HU4.out) 0).trans rfl; have u4b1 : u4.cell? ⟨gb, 1, none⟩ = some (.int .i64 lb.f1.f0) := (yaa_ (kB_ BB.out HU4.out) 1).trans rfl; have u4b2 : u4.cell? ⟨gb, 2, none⟩ = some (.slice B1 lb.f1.f1.length d1) := (yaa_ (kB_ BB.out HU4.out) 2).trans rfl; have u4b3 : u4.cell? ⟨gb, 3, none⟩ = some (.int .i64 lb.f2.f0) := (yaa_ (kB_ BB.out HU4.out) 3).trans rfl; have u4b4 : u4.cell? ⟨gb, 4, none⟩ = some (.slice B2 lb.f2.f1.length d2) := (yaa_ (kB_ BB.out HU4.out) 4).trans rfl; have u4d0 : u4.cell? ⟨gd, 0, none⟩ = some (.bool ld.f0) := (yaa_ (kB_ BD.out HU4.out) 0).trans rfl; have u4d1 : u4.cell? ⟨gd, 1, none⟩ = some (.int .i64 ld.f1.f0) := (yaa_ (kB_ BD.out HU4.out) 1).trans rfl; have u4d2 : u4.cell? ⟨gd, 2, none⟩ = some (.slice D1 ld.f1.f1.length e1) := (yaa_ (kB_ BD.out HU4.out) 2).trans rfl; have u4d3 : u4.cell? ⟨gd, 3, none⟩ = some (.int .i64 ld.f2.f0) := (yaa_ (kB_ BD.out HU4.out) 3).trans rfl; have u4d4 : u4.cell? ⟨gd, 4, none⟩ = some (.slice D2 ld.f2.f1.length e2) := (yaa_ (kB_ BD.out HU4.out) 4).trans rfl) | (go_at_call 66; have hcl := Gr_calls (W := u2) FF.out.2.1 FF.out.1 (LB.out.below HU2.out) (LA.out.below HU2.out); rw [eba.out] at hcl; refine hcl.mono ?_; clear hcl; rintro e u3 ⟨rfl, hb⟩; have HU3 := Az_.mk (show Below w6.heap.size w6 u3 from HU2.out.trans (hb.mono HU2.out.size)); clear hb; have u3a0 : u3.cell? ⟨ga, 0, none⟩ = some (.bool la.f0) := (yaa_ (kB_ BA.out HU3.out) 0).trans rfl; have u3a1 : u3.cell? ⟨ga, 1, none⟩ = some (.int .i64 la.f1.f0) := (yaa_ (kB_ BA.out HU3.out) 1).trans rfl; have u3a2 : u3.cell? ⟨ga, 2, none⟩ = some (.slice A1 la.f1.f1.length c1) := (yaa_ (kB_ BA.out HU3.out) 2).trans rfl; have u3a3 : u3.cell? ⟨ga, 3, none⟩ = some (.int .i64 la.f2.f0) := (yaa_ (kB_ BA.out HU3.out) 3).trans rfl; have u3a4 : u3.cell? ⟨ga, 4, none⟩ = some (.slice A2 la.f2.f1.length c2) := (yaa_ (kB_ BA.out HU3.out) 4).trans rfl; have u3b0 : u3.cell? ⟨gb, 0, none⟩ = some (.bool lb.f0) := (yaa_ (kB_ BB.out HU3.out) 0).trans rfl; have u3b1 : u3.cell? ⟨gb, 1, none⟩ = some (.int .i64 lb.f1.f0) := (yaa_ (kB_ BB.out HU3.out) 1).trans rfl; have u3b2 : u3.cell? ⟨gb, 2, none⟩ = some (.slice B1 lb.f1.f1.length d1) := (yaa_ (kB_ BB.out HU3.out) 2).trans rfl; have u3b3 : u3.cell? ⟨gb, 3, none⟩ = some (.int .i64 lb.f2.f0) := (yaa_ (kB_ BB.out HU3.out) 3).trans rfl; have u3b4 : u3.cell? ⟨gb, 4, none⟩ = some (.slice B2 lb.f2.f1.length d2) := (yaa_ (kB_ BB.out HU3.out) 4).trans rfl; have u3d0 : u3.cell? ⟨gd, 0, none⟩ = some (.bool ld.f0) := (yaa_ (kB_ BD.out HU3.out) 0).trans rfl; have u3d1 : u3.cell? ⟨gd, 1, none⟩ = some (.int .i64 ld.f1.f0) := (yaa_ (kB_ BD.out HU3.out) 1).trans rfl; have u3d2 : u3.cell? ⟨gd, 2, none⟩ = some (.slice D1 ld.f1.f1.length e1) := (yaa_ (kB_ BD.out HU3.out) 2).trans rfl; have u3d3 : u3.cell? ⟨gd, 3, none⟩ = some (.int .i64 ld.f2.f0) := (yaa_ (kB_ BD.out HU3.out) 3).trans rfl; have u3d4 : u3.cell? ⟨gd, 4, none⟩ = some (.slice D2 ld.f2.f1.length e2) := (yaa_ (kB_ BD.out HU3.out) 4).trans rfl) | (go_at_call 66; have hcl := Gr_calls (W := u1) FF.out.1 FF.out.2.1 (LA.out.below HU1.out) (LB.out.below HU1.out); rw [eab.out] at hcl; refine hcl.mono ?_; clear hcl; rintro e u2 ⟨rfl, hb⟩; have HU2 := Az_.mk (show Below w6.heap.size w6 u2 from HU1.out.trans (hb.mono HU1.out.size)); clear hb; have u2a0 : u2.cell? ⟨ga, 0, none⟩ = some (.bool la.f0) := (yaa_ (kB_ BA.out HU2.out) 0).trans rfl; have u2a1 : u2.cell? ⟨ga, 1, none⟩ = some (.int .i64 la.f1.f0) := (yaa_ (kB_ BA.out HU2.out) 1).trans rfl; have u2a2 : u2.cell? ⟨ga, 2, none⟩ = some (.slice A1 la.f1.f1.length c1) := (yaa_ (kB_ BA.out HU2.out) 2).trans rfl; have u2a3 : u2.cell? ⟨ga, 3, none⟩ = some (.int .i64 la.f2.f0) := (yaa_ (kB_ BA.out HU2.out) 3).trans rfl; have u2a4 : u2.cell? ⟨ga, 4, none⟩ = some (.slice A2 la.f2.f1.length c2) := (yaa_ (kB_ BA.out HU2.out) 4).trans rfl; have u2b0 : u2.cell? ⟨gb, 0, none⟩ = some (.bool lb.f0) := (yaa_ (kB_ BB.out HU2.out) 0).trans rfl; have u2b1 : u2.cell? ⟨gb, 1, none⟩ = some (.int .i64 lb.f1.f0) := (yaa_ (kB_ BB.out HU2.out) 1).trans rfl; have u2b2 : u2.cell? ⟨gb, 2, none⟩ = some (.slice B1 lb.f1.f1.length d1) := (yaa_ (kB_ BB.out HU2.out) 2).trans rfl; have u2b3 : u2.cell? ⟨gb, 3, none⟩ = some (.int .i64 lb.f2.f0) := (yaa_ (kB_ BB.out HU2.out) 3).trans rfl; have u2b4 : u2.cell? ⟨gb, 4, none⟩ = some (.slice B2 lb.f2.f1.length d2) := (yaa_ (kB_ BB.out HU2.out) 4).trans rfl; have u2d0 : u2.cell? ⟨gd, 0, none⟩ = some (.bool ld.f0) := (yaa_ (kB_ BD.out HU2.out) 0).trans rfl; have u2d1 : u2.cell? ⟨gd, 1, none⟩ = some (.int .i64 ld.f1.f0) := (yaa_ (kB_ BD.out HU2.out) 1).trans rfl; have u2d2 : u2.cell? ⟨gd, 2, none⟩ = some (.slice D1 ld.f1.f1.length e1) := (yaa_ (kB_ BD.out HU2.out) 2).trans rfl; have u2d3 : u2.cell? ⟨gd, 3, none⟩ = some (.int .i64 ld.f2.f0) := (yaa_ (kB_ BD.out HU2.out) 3).trans rfl; have u2d4 : u2.cell? ⟨gd, 4, none⟩ = some (.slice D2 ld.f2.f1.length e2) := (yaa_ (kB_ BD.out HU2.out) 4).trans rfl) | (go_at_call 66; have hcl := Gr_calls (W := w6) FF.out.1 FF.out.1 (LA.out.below (Below.refl _ _)) (LA.out.below (Below.refl _ _)); rw [eaa.out] at hcl; refine hcl.mono ?_; clear hcl; rintro e u1 ⟨rfl, hb⟩; have HU1 := Az_.mk (show Below w6.heap.size w6 u1 from hb); clear hb; have u1a0 : u1.cell? ⟨ga, 0, none⟩ = some (.bool la.f0) := (yaa_ (kB_ BA.out HU1.out) 0).trans rfl; have u1a1 : u1.cell? ⟨ga, 1, none⟩ = some (.int .i64 la.f1.f0) := (yaa_ (kB_ BA.out HU1.out) 1).trans rfl; have u1a2 : u1.cell? ⟨ga, 2, none⟩ = some (.slice A1 la.f1.f1.length c1) := (yaa_ (kB_ BA.out HU1.out) 2).trans rfl; have u1a3 : u1.cell? ⟨ga, 3, none⟩ = some (.int .i64 la.f2.f0) := (yaa_ (kB_ BA.out HU1.out) 3).trans rfl; have u1a4 : u1.cell? ⟨ga, 4, none⟩ = some (.slice A2 la.f2.f1.length c2) := (yaa_ (kB_ BA.out HU1.out) 4).trans rfl; have u1b0 : u1.cell? ⟨gb, 0, none⟩ = some (.bool lb.f0) := (yaa_ (kB_ BB.out HU1.out) 0).trans rfl; have u1b1 : u1.cell? ⟨gb, 1, none⟩ = some (.int .i64 lb.f1.f0) := (yaa_ (kB_ BB.out HU1.out) 1).trans rfl; have u1b2 : u1.cell? ⟨gb, 2, none⟩ = some (.slice B1 lb.f1.f1.length d1) := (yaa_ (kB_ BB.out HU1.out) 2).trans rfl; have u1b3 : u1.cell? ⟨gb, 3, none⟩ = some (.int .i64 lb.f2.f0) := (yaa_ (kB_ BB.out HU1.out) 3).trans rfl; have u1b4 : u1.cell? ⟨gb, 4, none⟩ = some (.slice B2 lb.f2.f1.length d2) := (yaa_ (kB_ BB.out HU1.out) 4).trans rfl; have u1d0 : u1.cell? ⟨gd, 0, none⟩ = some (.bool ld.f0) := (yaa_ (kB_ BD.out HU1.out) 0).trans rfl; have u1d1 : u1.cell? ⟨gd, 1, none⟩ = some (.int .i64 ld.f1.f0) := (yaa_ (kB_ BD.out HU1.out) 1).trans rfl; have u1d2 : u1.cell? ⟨gd, 2, none⟩ = some (.slice D1 ld.f1.f1.length e1) := (yaa_ (kB_ BD.out HU1.out) 2).trans rfl; have u1d3 : u1.cell? ⟨gd, 3, none⟩ = some (.int .i64 ld.f2.f0) := (yaa_ (kB_ BD.out HU1.out) 3).trans rfl; have u1d4 : u1.cell? ⟨gd, 4, none⟩ = some (.slice D2 ld.f2.f1.length e2) := (yaa_ (kB_ BD.out HU1.out) 4).trans rfl))
   have hcq : 3 ≤ cq := HCY.out.1
   obtain ⟨Y1, p1, Y2, p2, Lya, a0, a1, a2, a3, a4⟩ := lit_at HCY.out.2 0 (by simp) ya rfl
   obtain ⟨Z1, q1, Z2, q2, Lyb, b0, b1, b2, b3, b4⟩ := lit_at HCY.out.2 1 (by simp) yb rfl
   refine OrderRules_r10t (ga := ga) (gb := gb) (g0 := g1) (cp := cq) (by kernel_rfl) rfl rfl (kB_ BA.out HZ2.out) rfl (kB_ BB.out HZ2.out) ?_ ?_ hcq a0 a1 a2 a3 a4 b0 b1 b2 b3 b4 ?_
   ·intro w1 hb; have h := Gr_calls (W := w1) FF.out.1 FF.out.2.1 (LA.out.below (HZ2.out.trans (hb.mono HZ2.out.size))) (LB.out.below (HZ2.out.trans (hb.mono HZ2.out.size))); rw [eab.out] at h; exact h
   ·intro w1 hb; have h := Gr_calls (W := w1) FY.out.2.2.1 FY.out.2.2.2.1 (Lya.below hb) (Lyb.below hb); rw [FY.out.2.2.2.2 eab.out] at h; exact h
   intro v z3 hb3 hv12
   simp only [layL, Nat.reduceAdd, List.setIfInBounds_toArray, List.set_cons_zero, List.set_cons_succ, hv12]
   clear hv12
   generalize v 0 = x0
   generalize v 1 = x1
   generalize v 2 = x2
   generalize v 3 = x3
   generalize v 4 = x4
   generalize v 5 = x5
   generalize v 6 = x6
   generalize v 7 = x7
   generalize v 8 = x8
   generalize v 9 = x9
   generalize v 10 = x10
   generalize v 11 = x11
   clear v a0 a1 a2 a3 a4 b0 b1 b2 b3 b4 Lya Lyb
   have HZ3 := Az_.mk (HZ2.out.trans (hb3.mono HZ2.out.size))
   clear hb3
   go_wp2
   refine OrderRules_r12 (ga := ga) (by kernel_rfl) rfl (kB_ BA.out HZ3.out) ?_
   intro v z4 gp gq hv2 hv3 hgp hgq hpq hbp hbq hb4
   simp only [layL, Nat.reduceAdd, List.setIfInBounds_toArray, List.set_cons_zero, List.set_cons_succ, hv2, hv3]
   clear hv2 hv3
   generalize v 0 = y0
   generalize v 1 = y1
   clear v
   have hZ4 := HZ3.out.trans (hb4.mono HZ3.out.size)
   have hba4 := kB_ BA.out hZ4
   have hbb4 := kB_ BB.out hZ4
   have gap : ga ≠ gp := fun e => by have := blk_lt (kB_ BA.out HZ3.out); omega
   have gaq : ga ≠ gq := fun e => by have := blk_lt (kB_ BA.out HZ3.out); omega
   have gbp : gb ≠ gp := fun e => by have := blk_lt (kB_ BB.out HZ3.out); omega
   have gbq : gb ≠ gq := fun e => by have := blk_lt (kB_ BB.out HZ3.out); omega
   have p0 : z4.cell? ⟨gp, 0, none⟩ = some (.bool la.f0) := (yaa_ hbp 0).trans rfl
   have pz := yab_ hbp 0
   have hbq1 : (z4.setCell ⟨gp, 0, none⟩ (.bool false)).heap[gq]? = _ := (Below.heap_setCell z4 ⟨gp, 0, none⟩ (.bool false) gq (by show gq ≠ gp; omega)).trans hbq
   have q0 : (z4.setCell ⟨gp, 0, none⟩ (.bool false)).cell? ⟨gq, 0, none⟩ = some (.bool la.f0) := (yaa_ hbq1 0).trans rfl
   have qz := yab_ hbq1 0
   obtain ⟨z5, hz5⟩ : ∃ x, x = (z4.setCell ⟨gp, 0, none⟩ (.bool false)).setCell ⟨gq, 0, none⟩ (.bool true) := ⟨_, rfl⟩
   have hfar : ∀ k, k ≠ gp → k ≠ gq → z5.heap[k]? = z4.heap[k]? := fun k h1 h2 => by rw [hz5]; exact (Below.heap_setCell _ _ _ k (by show k ≠ gq; omega)).trans (Below.heap_setCell _ _ _ k (by show k ≠ gp; omega))
   have hbp5 : z5.heap[gp]? = some (.cells #[.bool false, .int .i64 la.f1.f0, .slice A1 la.f1.f1.length c1, .int .i64 la.f2.f0, .slice A2 la.f2.f1.length c2] 78 (0, 0)) := by rw [hz5]; exact (Below.heap_setCell _ _ _ gp (by show gp ≠ gq; omega)).trans ((blk_set hbp 0 _).trans rfl)
   have hbq5 : z5.heap[gq]? = some (.cells #[.bool true, .int .i64 la.f1.f0, .slice A1 la.f1.f1.length c1, .int .i64 la.f2.f0, .slice A2 la.f2.f1.length c2] 78 (0, 0)) := by rw [hz5]; exact (blk_set hbq1 0 _).trans rfl
   have hba5 := (hfar ga gap gaq).trans hba4
   have hbb5 := (hfar gb gbp gbq).trans hbb4
   have hs5 : z5.heap.size = z4.heap.size := by rw [hz5, setCell_size, setCell_size]
   have hZ5 : Below w6.heap.size w6 z5 := by
    have h1 : w6.heap.size ≤ gp := Nat.le_trans HZ3.out.size hgp
    have h2 : w6.heap.size ≤ gq := Nat.le_trans HZ3.out.size hgq
    rw [hz5]
    exact (hZ4.setCell h1 _).setCell h2 _
   have m0 : z5.cell? ⟨gb, 0, none⟩ = some (.bool lb.f0) := (yaa_ hbb5 0).trans rfl
   have m1 : z5.cell? ⟨gb, 1, none⟩ = some (.int .i64 lb.f1.f0) := (yaa_ hbb5 1).trans rfl
   have m2 : z5.cell? ⟨gb, 2, none⟩ = some (.slice B1 lb.f1.f1.length d1) := (yaa_ hbb5 2).trans rfl
   have m3 : z5.cell? ⟨gb, 3, none⟩ = some (.int .i64 lb.f2.f0) := (yaa_ hbb5 3).trans rfl
   have m4 : z5.cell? ⟨gb, 4, none⟩ = some (.slice B2 lb.f2.f1.length d2) := (yaa_ hbb5 4).trans rfl
   have HZZ := Az_.mk hz5
   rw [hz5] at m0 m1 m2 m3 m4
   clear hz5 hfar hba4 hbb4 gap gaq gbp gbq hb4 hgp hgq hbp hbq
   go_wp2
   have hbt := heap_alloc_new z5 (.cells #[.bool lb.f0, .int .i64 lb.f2.f0, .slice B2 lb.f2.f1.length d2, .int .i64 lb.f1.f0, .slice B1 lb.f1.f1.length d1] 78)
   rw [hs5] at hbt
   have hb56 := bA_ (Below.refl z5.heap.size z5) (.cells #[.bool lb.f0, .int .i64 lb.f2.f0, .slice B2 lb.f2.f1.length d2, .int .i64 lb.f1.f0, .slice B1 lb.f1.f1.length d1] 78)
   rw [← HZZ.out]
   obtain ⟨z6, hz6⟩ : ∃ x, x = z5.alloc (.cells #[.bool lb.f0, .int .i64 lb.f2.f0, .slice B2 lb.f2.f1.length d2, .int .i64 lb.f1.f0, .slice B1 lb.f1.f1.length d1] 78) := ⟨_, rfl⟩
   rw [← hz6] at hbt hb56 ⊢
   have HZ6 := Az_.mk (hZ5.trans (hb56.mono hZ5.size))
   have hs6 : Az_ (z5.heap.size = ((z4.setCell ⟨gp, 0, none⟩ (.bool false)).setCell ⟨gq, 0, none⟩ (.bool true)).heap.size) := ⟨by rw [← HZZ.out]⟩
   clear hz6 p0 pz q0 qz hbq1 m0 m1 m2 m3 m4
   refine OrderRules_r15 (ga := ga) (gb := gb) (gp := gp) (gn := gq) (gt := z4.heap.size) (b := true) (p0 := false) (n0 := true) (tl := [la.f1, la.f1, la.f2, la.f2]) (by kernel_rfl) rfl (kB_ hba5 hb56) rfl (kB_ hbb5 hb56) rfl (kB_ hbp5 hb56) rfl (kB_ hbq5 hb56) rfl hbt ?_ ?_ ?_ ?_ ?_ ?_ ?_ ?_
   ·intro w1 hb; have h := Gr_calls (x := ⟨true, la.f1, la.f2⟩) (y := ⟨false, la.f1, la.f2⟩) (W := w1) FF.out.1 FF.out.1 (let L := LA.out.below (HZ6.out.trans (hb.mono HZ6.out.size)); ⟨L.l1, L.c1, L.l2, L.c2⟩) (let L := LA.out.below (HZ6.out.trans (hb.mono HZ6.out.size)); ⟨L.l1, L.c1, L.l2, L.c2⟩); rw [HTU.out.2.1] at h; exact h
   ·intro w1 hb; have h := Gr_calls (x := ⟨false, la.f1, la.f2⟩) (y := ⟨true, la.f1, la.f2⟩) (W := w1) FF.out.1 FF.out.1 (let L := LA.out.below (HZ6.out.trans (hb.mono HZ6.out.size)); ⟨L.l1, L.c1, L.l2, L.c2⟩) (let L := LA.out.below (HZ6.out.trans (hb.mono HZ6.out.size)); ⟨L.l1, L.c1, L.l2, L.c2⟩); rw [HTU.out.2.2] at h; exact h
   ·intro w1 hb; have h := Gr_calls (W := w1) FF.out.1 FF.out.2.1 (LA.out.below (HZ6.out.trans (hb.mono HZ6.out.size))) (LB.out.below (HZ6.out.trans (hb.mono HZ6.out.size))); rw [eab.out] at h; exact h
   ·intro w1 hb; have h := Gr_calls (x := la) (y := ⟨lb.f0, lb.f2, lb.f1⟩) (W := w1) FF.out.1 ⟨FF.out.2.1.2, FF.out.2.1.1⟩ (LA.out.below (HZ6.out.trans (hb.mono HZ6.out.size))) (let L := LB.out.below (HZ6.out.trans (hb.mono HZ6.out.size)); ⟨L.l2, L.c2, L.l1, L.c1⟩); rw [HTU.out.1, eab.out] at h; exact h
   ·intro w1 hb
    have L := LA.out.below (HZ6.out.trans (hb.mono HZ6.out.size))
    exact (order_Terms.calls true la.f1.f0 (fun _ => True) A1 c1 la.f1.f1 la.f2.f0 (fun _ => True) A2 c2 la.f2.f1 [la.f1, la.f1, la.f2, la.f2] w1 (Kd.V_mk L.l1 (Kd.F_mono (F_old k30_heap L.c1 (Below.refl _ _)) (fun _ _ => trivial))) (Kd.V_mk L.l2 (Kd.F_mono (F_old k30_heap L.c2 (Below.refl _ _)) (fun _ _ => trivial))) (by have := OTerms_of ⟨true, la.f1, la.f2⟩; exact this)).mono (fun e w2 h => by obtain ⟨v1, h1, h2, h3⟩ := h; obtain ⟨A9, c9, h9⟩ := Kd.N_slice h2; subst h9; exact ⟨_, h1, ⟨A9, c9, rfl, (Kd.N_reads' h2).2.1, (Kd.N_reads' h2).2.2⟩, h3⟩)
   ·intro w1 hb; exact Multi.calls [] [] none 0 none 0 w1 (Kd.C_nil k30 w1) (Nat.le_refl _) (Kd.C_nil k30 w1) (Nat.le_refl _) (fun x hx => by cases hx) (fun x hx => by cases hx) (by decide) (by decide)
   ·intro w1 A' c' hb hl hC
    have h := Multi.calls [la.f1, la.f1, la.f2, la.f2] [] A' c' none 0 w1 hC hl (Kd.C_nil k30 w1) (Nat.le_refl _) (by intro x hx; simp at hx; rcases hx with rfl | rfl | rfl | rfl <;> first | exact FF.out.1.1 | exact FF.out.1.2) (fun x hx => by cases hx) (by simp) (by simp)
    rw [multi_nil (List.cons_ne_nil _ _)] at h
    exact h
   intro v z7 hb7 hv27
   simp only [layL, Nat.reduceAdd, List.setIfInBounds_toArray, List.set_cons_zero, List.set_cons_succ, hv27]
   clear hv27
   generalize v 0 = t0
   generalize v 1 = t1
   generalize v 2 = t2
   generalize v 3 = t3
   generalize v 4 = t4
   generalize v 5 = t5
   generalize v 6 = t6
   generalize v 7 = t7
   generalize v 8 = t8
   generalize v 9 = t9
   generalize v 10 = t10
   generalize v 11 = t11
   generalize v 12 = t12
   generalize v 13 = t13
   generalize v 14 = t14
   generalize v 15 = t15
   generalize v 16 = t16
   generalize v 17 = t17
   generalize v 18 = t18
   generalize v 19 = t19
   generalize v 20 = t20
   generalize v 21 = t21
   generalize v 22 = t22
   generalize v 23 = t23
   generalize v 24 = t24
   generalize v 25 = t25
   generalize v 26 = t26
   clear v
   have HZ7 := Az_.mk (HB6.out.trans ((HZ6.out.trans (hb7.mono HZ6.out.size)).mono HB6.out.size))
   clear hb7
   go_wp2
   go_ret
   exact ⟨rfl, HZ7.out⟩
  | true =>
   have ead : Az_ (grL la ld = true) := ⟨grL_trans _ _ _ eab.out ebd.out⟩
   go_wp2_with (first | (go_at_call 71; refine (clause_Apply.calls kc _ _ u _ cp [la, lb, ld] [ya, yb, yd] z1 HAU.out.2 HAU.out.1 (Kd.C_below HC6.out HZ1.out) HCP2.out FY.out.2.1).mono ?_; rintro e z2 ⟨v1, rfl, hR, hb⟩; obtain ⟨g1, cq, hv1, _, _, _⟩ := Kd.R_form hR (by simp); replace hv1 : v1 = .slice (some ⟨g1, 0, none⟩) 3 cq := hv1; subst hv1; have HCY := Az_.mk (Kd.R_reads' hR).2; have HZ2 := Az_.mk (HZ1.out.trans (hb.mono HZ1.out.size)); clear hb hR) | (go_at_call 52; refine (soriteslaw07_Of.calls ko _ _ s u u6 (hbS.out _ (HB6.out.trans (HU6.out.mono HB6.out.size))) hcs FY.out.1).mono ?_; rintro e z1 ⟨v0, rfl, hR, hb⟩; obtain ⟨Au, cu, hv0⟩ := Kd.R_slice hR; subst hv0; have HAU := Az_.mk (Kd.R_reads' hR).2; have HZ1 := Az_.mk (HU6.out.trans (hb.mono HU6.out.size)); clear hb hR) | (go_at_call 66; have hcl := Gr_calls (W := u5) FF.out.1 FF.out.2.2 (LA.out.below HU5.out) (LD.out.below HU5.out); rw [ead.out] at hcl; refine hcl.mono ?_; clear hcl; rintro e u6 ⟨rfl, hb⟩; have HU6 := Az_.mk (show Below w6.heap.size w6 u6 from HU5.out.trans (hb.mono HU5.out.size)); clear hb; have u6a0 : u6.cell? ⟨ga, 0, none⟩ = some (.bool la.f0) := (yaa_ (kB_ BA.out HU6.out) 0).trans rfl; have u6a1 : u6.cell? ⟨ga, 1, none⟩ = some (.int .i64 la.f1.f0) := (yaa_ (kB_ BA.out HU6.out) 1).trans rfl; have u6a2 : u6.cell? ⟨ga, 2, none⟩ = some (.slice A1 la.f1.f1.length c1) := (yaa_ (kB_ BA.out HU6.out) 2).trans rfl; have u6a3 : u6.cell? ⟨ga, 3, none⟩ = some (.int .i64 la.f2.f0) := (yaa_ (kB_ BA.out HU6.out) 3).trans rfl; have u6a4 : u6.cell? ⟨ga, 4, none⟩ = some (.slice A2 la.f2.f1.length c2) := (yaa_ (kB_ BA.out HU6.out) 4).trans rfl; have u6b0 : u6.cell? ⟨gb, 0, none⟩ = some (.bool lb.f0) := (yaa_ (kB_ BB.out HU6.out) 0).trans rfl; have u6b1 : u6.cell? ⟨gb, 1, none⟩ = some (.int .i64 lb.f1.f0) := (yaa_ (kB_ BB.out HU6.out) 1).trans rfl; have u6b2 : u6.cell? ⟨gb, 2, none⟩ = some (.slice B1 lb.f1.f1.length d1) := (yaa_ (kB_ BB.out HU6.out) 2).trans rfl; have u6b3 : u6.cell? ⟨gb, 3, none⟩ = some (.int .i64 lb.f2.f0) := (yaa_ (kB_ BB.out HU6.out) 3).trans rfl; have u6b4 : u6.cell? ⟨gb, 4, none⟩ = some (.slice B2 lb.f2.f1.length d2) := (yaa_ (kB_ BB.out HU6.out) 4).trans rfl; have u6d0 : u6.cell? ⟨gd, 0, none⟩ = some (.bool ld.f0) := (yaa_ (kB_ BD.out HU6.out) 0).trans rfl; have u6d1 : u6.cell? ⟨gd, 1, none⟩ = some (.int .i64 ld.f1.f0) := (yaa_ (kB_ BD.out HU6.out) 1).trans rfl; have u6d2 : u6.cell? ⟨gd, 2, none⟩ = some (.slice D1 ld.f1.f1.length e1) := (yaa_ (kB_ BD.out HU6.out) 2).trans rfl; have u6d3 : u6.cell? ⟨gd, 3, none⟩ = some (.int .i64 ld.f2.f0) := (yaa_ (kB_ BD.out HU6.out) 3).trans rfl; have u6d4 : u6.cell? ⟨gd, 4, none⟩ = some (.slice D2 ld.f2.f1.length e2) := (yaa_ (kB_ BD.out HU6.out) 4).trans rfl) | (go_at_call 66; have hcl := Gr_calls (W := u4) FF.out.2.1 FF.out.2.2 (LB.out.below HU4.out) (LD.out.below HU4.out); rw [ebd.out] at hcl; refine hcl.mono ?_; clear hcl; rintro e u5 ⟨rfl, hb⟩; have HU5 := Az_.mk (show Below w6.heap.size w6 u5 from HU4.out.trans (hb.mono HU4.out.size)); clear hb; have u5a0 : u5.cell? ⟨ga, 0, none⟩ = some (.bool la.f0) := (yaa_ (kB_ BA.out HU5.out) 0).trans rfl; have u5a1 : u5.cell? ⟨ga, 1, none⟩ = some (.int .i64 la.f1.f0) := (yaa_ (kB_ BA.out HU5.out) 1).trans rfl; have u5a2 : u5.cell? ⟨ga, 2, none⟩ = some (.slice A1 la.f1.f1.length c1) := (yaa_ (kB_ BA.out HU5.out) 2).trans rfl; have u5a3 : u5.cell? ⟨ga, 3, none⟩ = some (.int .i64 la.f2.f0) := (yaa_ (kB_ BA.out HU5.out) 3).trans rfl; have u5a4 : u5.cell? ⟨ga, 4, none⟩ = some (.slice A2 la.f2.f1.length c2) := (yaa_ (kB_ BA.out HU5.out) 4).trans rfl; have u5b0 : u5.cell? ⟨gb, 0, none⟩ = some (.bool lb.f0) := (yaa_ (kB_ BB.out HU5.out) 0).trans rfl; have u5b1 : u5.cell? ⟨gb, 1, none⟩ = some (.int .i64 lb.f1.f0) := (yaa_ (kB_ BB.out HU5.out) 1).trans rfl; have u5b2 : u5.cell? ⟨gb, 2, none⟩ = some (.slice B1 lb.f1.f1.length d1) := (yaa_ (kB_ BB.out HU5.out) 2).trans rfl; have u5b3 : u5.cell? ⟨gb, 3, none⟩ = some (.int .i64 lb.f2.f0) := (yaa_ (kB_ BB.out HU5.out) 3).trans rfl; have u5b4 : u5.cell? ⟨gb, 4, none⟩ = some (.slice B2 lb.f2.f1.length d2) := (yaa_ (kB_ BB.out HU5.out) 4).trans rfl; have u5d0 : u5.cell? ⟨gd, 0, none⟩ = some (.bool ld.f0) := (yaa_ (kB_ BD.out HU5.out) 0).trans rfl; have u5d1 : u5.cell? ⟨gd, 1, none⟩ = some (.int .i64 ld.f1.f0) := (yaa_ (kB_ BD.out HU5.out) 1).trans rfl; have u5d2 : u5.cell? ⟨gd, 2, none⟩ = some (.slice D1 ld.f1.f1.length e1) := (yaa_ (kB_ BD.out HU5.out) 2).trans rfl; have u5d3 : u5.cell? ⟨gd, 3, none⟩ = some (.int .i64 ld.f2.f0) := (yaa_ (kB_ BD.out HU5.out) 3).trans rfl; have u5d4 : u5.cell? ⟨gd, 4, none⟩ = some (.slice D2 ld.f2.f1.length e2) := (yaa_ (kB_ BD.out HU5.out) 4).trans rfl) | (go_at_call 66; have hcl := Gr_calls (W := u3) FF.out.1 FF.out.2.1 (LA.out.below HU3.out) (LB.out.below HU3.out); rw [eab.out] at hcl; refine hcl.mono ?_; clear hcl; rintro e u4 ⟨rfl, hb⟩; have HU4 := Az_.mk (show Below w6.heap.size w6 u4 from HU3.out.trans (hb.mono HU3.out.size)); clear hb; have u4a0 : u4.cell? ⟨ga, 0, none⟩ = some (.bool la.f0) := (yaa_ (kB_ BA.out HU4.out) 0).trans rfl; have u4a1 : u4.cell? ⟨ga, 1, none⟩ = some (.int .i64 la.f1.f0) := (yaa_ (kB_ BA.out HU4.out) 1).trans rfl; have u4a2 : u4.cell? ⟨ga, 2, none⟩ = some (.slice A1 la.f1.f1.length c1) := (yaa_ (kB_ BA.out HU4.out) 2).trans rfl; have u4a3 : u4.cell? ⟨ga, 3, none⟩ = some (.int .i64 la.f2.f0) := (yaa_ (kB_ BA.out HU4.out) 3).trans rfl; have u4a4 : u4.cell? ⟨ga, 4, none⟩ = some (.slice A2 la.f2.f1.length c2) := (yaa_ (kB_ BA.out HU4.out) 4).trans rfl; have u4b0 : u4.cell? ⟨gb, 0, none⟩ = some (.bool lb.f0) := (yaa_ (kB_ BB.out HU4.out) 0).trans rfl; have u4b1 : u4.cell? ⟨gb, 1, none⟩ = some (.int .i64 lb.f1.f0) := (yaa_ (kB_ BB.out HU4.out) 1).trans rfl; have u4b2 : u4.cell? ⟨gb, 2, none⟩ = some (.slice B1 lb.f1.f1.length d1) := (yaa_ (kB_ BB.out HU4.out) 2).trans rfl; have u4b3 : u4.cell? ⟨gb, 3, none⟩ = some (.int .i64 lb.f2.f0) := (yaa_ (kB_ BB.out HU4.out) 3).trans rfl; have u4b4 : u4.cell? ⟨gb, 4, none⟩ = some (.slice B2 lb.f2.f1.length d2) := (yaa_ (kB_ BB.out HU4.out) 4).trans rfl; have u4d0 : u4.cell? ⟨gd, 0, none⟩ = some (.bool ld.f0) := (yaa_ (kB_ BD.out HU4.out) 0).trans rfl; have u4d1 : u4.cell? ⟨gd, 1, none⟩ = some (.int .i64 ld.f1.f0) := (yaa_ (kB_ BD.out HU4.out) 1).trans rfl; have u4d2 : u4.cell? ⟨gd, 2, none⟩ = some (.slice D1 ld.f1.f1.length e1) := (yaa_ (kB_ BD.out HU4.out) 2).trans rfl; have u4d3 : u4.cell? ⟨gd, 3, none⟩ = some (.int .i64 ld.f2.f0) := (yaa_ (kB_ BD.out HU4.out) 3).trans rfl; have u4d4 : u4.cell? ⟨gd, 4, none⟩ = some (.slice D2 ld.f2.f1.length e2) := (yaa_ (kB_ BD.out HU4.out) 4).trans rfl) | (go_at_call 66; have hcl := Gr_calls (W := u2) FF.out.2.1 FF.out.1 (LB.out.below HU2.out) (LA.out.below HU2.out); rw [eba.out] at hcl; refine hcl.mono ?_; clear hcl; rintro e u3 ⟨rfl, hb⟩; have HU3 := Az_.mk (show Below w6.heap.size w6 u3 from HU2.out.trans (hb.mono HU2.out.size)); clear hb; have u3a0 : u3.cell? ⟨ga, 0, none⟩ = some (.bool la.f0) := (yaa_ (kB_ BA.out HU3.out) 0).trans rfl; have u3a1 : u3.cell? ⟨ga, 1, none⟩ = some (.int .i64 la.f1.f0) := (yaa_ (kB_ BA.out HU3.out) 1).trans rfl; have u3a2 : u3.cell? ⟨ga, 2, none⟩ = some (.slice A1 la.f1.f1.length c1) := (yaa_ (kB_ BA.out HU3.out) 2).trans rfl; have u3a3 : u3.cell? ⟨ga, 3, none⟩ = some (.int .i64 la.f2.f0) := (yaa_ (kB_ BA.out HU3.out) 3).trans rfl; have u3a4 : u3.cell? ⟨ga, 4, none⟩ = some (.slice A2 la.f2.f1.length c2) := (yaa_ (kB_ BA.out HU3.out) 4).trans rfl; have u3b0 : u3.cell? ⟨gb, 0, none⟩ = some (.bool lb.f0) := (yaa_ (kB_ BB.out HU3.out) 0).trans rfl; have u3b1 : u3.cell? ⟨gb, 1, none⟩ = some (.int .i64 lb.f1.f0) := (yaa_ (kB_ BB.out HU3.out) 1).trans rfl; have u3b2 : u3.cell? ⟨gb, 2, none⟩ = some (.slice B1 lb.f1.f1.length d1) := (yaa_ (kB_ BB.out HU3.out) 2).trans rfl; have u3b3 : u3.cell? ⟨gb, 3, none⟩ = some (.int .i64 lb.f2.f0) := (yaa_ (kB_ BB.out HU3.out) 3).trans rfl; have u3b4 : u3.cell? ⟨gb, 4, none⟩ = some (.slice B2 lb.f2.f1.length d2) := (yaa_ (kB_ BB.out HU3.out) 4).trans rfl; have u3d0 : u3.cell? ⟨gd, 0, none⟩ = some (.bool ld.f0) := (yaa_ (kB_ BD.out HU3.out) 0).trans rfl; have u3d1 : u3.cell? ⟨gd, 1, none⟩ = some (.int .i64 ld.f1.f0) := (yaa_ (kB_ BD.out HU3.out) 1).trans rfl; have u3d2 : u3.cell? ⟨gd, 2, none⟩ = some (.slice D1 ld.f1.f1.length e1) := (yaa_ (kB_ BD.out HU3.out) 2).trans rfl; have u3d3 : u3.cell? ⟨gd, 3, none⟩ = some (.int .i64 ld.f2.f0) := (yaa_ (kB_ BD.out HU3.out) 3).trans rfl; have u3d4 : u3.cell? ⟨gd, 4, none⟩ = some (.slice D2 ld.f2.f1.length e2) := (yaa_ (kB_ BD.out HU3.out) 4).trans rfl) | (go_at_call 66; have hcl := Gr_calls (W := u1) FF.out.1 FF.out.2.1 (LA.out.below HU1.out) (LB.out.below HU1.out); rw [eab.out] at hcl; refine hcl.mono ?_; clear hcl; rintro e u2 ⟨rfl, hb⟩; have HU2 := Az_.mk (show Below w6.heap.size w6 u2 from HU1.out.trans (hb.mono HU1.out.size)); clear hb; have u2a0 : u2.cell? ⟨ga, 0, none⟩ = some (.bool la.f0) := (yaa_ (kB_ BA.out HU2.out) 0).trans rfl; have u2a1 : u2.cell? ⟨ga, 1, none⟩ = some (.int .i64 la.f1.f0) := (yaa_ (kB_ BA.out HU2.out) 1).trans rfl; have u2a2 : u2.cell? ⟨ga, 2, none⟩ = some (.slice A1 la.f1.f1.length c1) := (yaa_ (kB_ BA.out HU2.out) 2).trans rfl; have u2a3 : u2.cell? ⟨ga, 3, none⟩ = some (.int .i64 la.f2.f0) := (yaa_ (kB_ BA.out HU2.out) 3).trans rfl; have u2a4 : u2.cell? ⟨ga, 4, none⟩ = some (.slice A2 la.f2.f1.length c2) := (yaa_ (kB_ BA.out HU2.out) 4).trans rfl; have u2b0 : u2.cell? ⟨gb, 0, none⟩ = some (.bool lb.f0) := (yaa_ (kB_ BB.out HU2.out) 0).trans rfl; have u2b1 : u2.cell? ⟨gb, 1, none⟩ = some (.int .i64 lb.f1.f0) := (yaa_ (kB_ BB.out HU2.out) 1).trans rfl; have u2b2 : u2.cell? ⟨gb, 2, none⟩ = some (.slice B1 lb.f1.f1.length d1) := (yaa_ (kB_ BB.out HU2.out) 2).trans rfl; have u2b3 : u2.cell? ⟨gb, 3, none⟩ = some (.int .i64 lb.f2.f0) := (yaa_ (kB_ BB.out HU2.out) 3).trans rfl; have u2b4 : u2.cell? ⟨gb, 4, none⟩ = some (.slice B2 lb.f2.f1.length d2) := (yaa_ (kB_ BB.out HU2.out) 4).trans rfl; have u2d0 : u2.cell? ⟨gd, 0, none⟩ = some (.bool ld.f0) := (yaa_ (kB_ BD.out HU2.out) 0).trans rfl; have u2d1 : u2.cell? ⟨gd, 1, none⟩ = some (.int .i64 ld.f1.f0) := (yaa_ (kB_ BD.out HU2.out) 1).trans rfl; have u2d2 : u2.cell? ⟨gd, 2, none⟩ = some (.slice D1 ld.f1.f1.length e1) := (yaa_ (kB_ BD.out HU2.out) 2).trans rfl; have u2d3 : u2.cell? ⟨gd, 3, none⟩ = some (.int .i64 ld.f2.f0) := (yaa_ (kB_ BD.out HU2.out) 3).trans rfl; have u2d4 : u2.cell? ⟨gd, 4, none⟩ = some (.slice D2 ld.f2.f1.length e2) := (yaa_ (kB_ BD.out HU2.out) 4).trans rfl) | (go_at_call 66; have hcl := Gr_calls (W := w6) FF.out.1 FF.out.1 (LA.out.below (Below.refl _ _)) (LA.out.below (Below.refl _ _)); rw [eaa.out] at hcl; refine hcl.mono ?_; clear hcl; rintro e u1 ⟨rfl, hb⟩; have HU1 := Az_.mk (show Below w6.heap.size w6 u1 from hb); clear hb; have u1a0 : u1.cell? ⟨ga, 0, none⟩ = some (.bool la.f0) := (yaa_ (kB_ BA.out HU1.out) 0).trans rfl; have u1a1 : u1.cell? ⟨ga, 1, none⟩ = some (.int .i64 la.f1.f0) := (yaa_ (kB_ BA.out HU1.out) 1).trans rfl; have u1a2 : u1.cell? ⟨ga, 2, none⟩ = some (.slice A1 la.f1.f1.length c1) := (yaa_ (kB_ BA.out HU1.out) 2).trans rfl; have u1a3 : u1.cell? ⟨ga, 3, none⟩ = some (.int .i64 la.f2.f0) := (yaa_ (kB_ BA.out HU1.out) 3).trans rfl; have u1a4 : u1.cell? ⟨ga, 4, none⟩ = some (.slice A2 la.f2.f1.length c2) := (yaa_ (kB_ BA.out HU1.out) 4).trans rfl; have u1b0 : u1.cell? ⟨gb, 0, none⟩ = some (.bool lb.f0) := (yaa_ (kB_ BB.out HU1.out) 0).trans rfl; have u1b1 : u1.cell? ⟨gb, 1, none⟩ = some (.int .i64 lb.f1.f0) := (yaa_ (kB_ BB.out HU1.out) 1).trans rfl; have u1b2 : u1.cell? ⟨gb, 2, none⟩ = some (.slice B1 lb.f1.f1.length d1) := (yaa_ (kB_ BB.out HU1.out) 2).trans rfl; have u1b3 : u1.cell? ⟨gb, 3, none⟩ = some (.int .i64 lb.f2.f0) := (yaa_ (kB_ BB.out HU1.out) 3).trans rfl; have u1b4 : u1.cell? ⟨gb, 4, none⟩ = some (.slice B2 lb.f2.f1.length d2) := (yaa_ (kB_ BB.out HU1.out) 4).trans rfl; have u1d0 : u1.cell? ⟨gd, 0, none⟩ = some (.bool ld.f0) := (yaa_ (kB_ BD.out HU1.out) 0).trans rfl; have u1d1 : u1.cell? ⟨gd, 1, none⟩ = some (.int .i64 ld.f1.f0) := (yaa_ (kB_ BD.out HU1.out) 1).trans rfl; have u1d2 : u1.cell? ⟨gd, 2, none⟩ = some (.slice D1 ld.f1.f1.length e1) := (yaa_ (kB_ BD.out HU1.out) 2).trans rfl; have u1d3 : u1.cell? ⟨gd, 3, none⟩ = some (.int .i64 ld.f2.f0) := (yaa_ (kB_ BD.out HU1.out) 3).trans rfl; have u1d4 : u1.cell? ⟨gd, 4, none⟩ = some (.slice D2 ld.f2.f1.length e2) := (yaa_ (kB_ BD.out HU1.out) 4).trans rfl))
   have hcq : 3 ≤ cq := HCY.out.1
   obtain ⟨Y1, p1, Y2, p2, Lya, a0, a1, a2, a3, a4⟩ := lit_at HCY.out.2 0 (by simp) ya rfl
   obtain ⟨Z1, q1, Z2, q2, Lyb, b0, b1, b2, b3, b4⟩ := lit_at HCY.out.2 1 (by simp) yb rfl
   refine OrderRules_r10t (ga := ga) (gb := gb) (g0 := g1) (cp := cq) (by kernel_rfl) rfl rfl (kB_ BA.out HZ2.out) rfl (kB_ BB.out HZ2.out) ?_ ?_ hcq a0 a1 a2 a3 a4 b0 b1 b2 b3 b4 ?_
   ·intro w1 hb; have h := Gr_calls (W := w1) FF.out.1 FF.out.2.1 (LA.out.below (HZ2.out.trans (hb.mono HZ2.out.size))) (LB.out.below (HZ2.out.trans (hb.mono HZ2.out.size))); rw [eab.out] at h; exact h
   ·intro w1 hb; have h := Gr_calls (W := w1) FY.out.2.2.1 FY.out.2.2.2.1 (Lya.below hb) (Lyb.below hb); rw [FY.out.2.2.2.2 eab.out] at h; exact h
   intro v z3 hb3 hv12
   simp only [layL, Nat.reduceAdd, List.setIfInBounds_toArray, List.set_cons_zero, List.set_cons_succ, hv12]
   clear hv12
   generalize v 0 = x0
   generalize v 1 = x1
   generalize v 2 = x2
   generalize v 3 = x3
   generalize v 4 = x4
   generalize v 5 = x5
   generalize v 6 = x6
   generalize v 7 = x7
   generalize v 8 = x8
   generalize v 9 = x9
   generalize v 10 = x10
   generalize v 11 = x11
   clear v a0 a1 a2 a3 a4 b0 b1 b2 b3 b4 Lya Lyb
   have HZ3 := Az_.mk (HZ2.out.trans (hb3.mono HZ2.out.size))
   clear hb3
   go_wp2
   refine OrderRules_r12 (ga := ga) (by kernel_rfl) rfl (kB_ BA.out HZ3.out) ?_
   intro v z4 gp gq hv2 hv3 hgp hgq hpq hbp hbq hb4
   simp only [layL, Nat.reduceAdd, List.setIfInBounds_toArray, List.set_cons_zero, List.set_cons_succ, hv2, hv3]
   clear hv2 hv3
   generalize v 0 = y0
   generalize v 1 = y1
   clear v
   have hZ4 := HZ3.out.trans (hb4.mono HZ3.out.size)
   have hba4 := kB_ BA.out hZ4
   have hbb4 := kB_ BB.out hZ4
   have gap : ga ≠ gp := fun e => by have := blk_lt (kB_ BA.out HZ3.out); omega
   have gaq : ga ≠ gq := fun e => by have := blk_lt (kB_ BA.out HZ3.out); omega
   have gbp : gb ≠ gp := fun e => by have := blk_lt (kB_ BB.out HZ3.out); omega
   have gbq : gb ≠ gq := fun e => by have := blk_lt (kB_ BB.out HZ3.out); omega
   have p0 : z4.cell? ⟨gp, 0, none⟩ = some (.bool la.f0) := (yaa_ hbp 0).trans rfl
   have pz := yab_ hbp 0
   have hbq1 : (z4.setCell ⟨gp, 0, none⟩ (.bool false)).heap[gq]? = _ := (Below.heap_setCell z4 ⟨gp, 0, none⟩ (.bool false) gq (by show gq ≠ gp; omega)).trans hbq
   have q0 : (z4.setCell ⟨gp, 0, none⟩ (.bool false)).cell? ⟨gq, 0, none⟩ = some (.bool la.f0) := (yaa_ hbq1 0).trans rfl
   have qz := yab_ hbq1 0
   obtain ⟨z5, hz5⟩ : ∃ x, x = (z4.setCell ⟨gp, 0, none⟩ (.bool false)).setCell ⟨gq, 0, none⟩ (.bool true) := ⟨_, rfl⟩
   have hfar : ∀ k, k ≠ gp → k ≠ gq → z5.heap[k]? = z4.heap[k]? := fun k h1 h2 => by rw [hz5]; exact (Below.heap_setCell _ _ _ k (by show k ≠ gq; omega)).trans (Below.heap_setCell _ _ _ k (by show k ≠ gp; omega))
   have hbp5 : z5.heap[gp]? = some (.cells #[.bool false, .int .i64 la.f1.f0, .slice A1 la.f1.f1.length c1, .int .i64 la.f2.f0, .slice A2 la.f2.f1.length c2] 78 (0, 0)) := by rw [hz5]; exact (Below.heap_setCell _ _ _ gp (by show gp ≠ gq; omega)).trans ((blk_set hbp 0 _).trans rfl)
   have hbq5 : z5.heap[gq]? = some (.cells #[.bool true, .int .i64 la.f1.f0, .slice A1 la.f1.f1.length c1, .int .i64 la.f2.f0, .slice A2 la.f2.f1.length c2] 78 (0, 0)) := by rw [hz5]; exact (blk_set hbq1 0 _).trans rfl
   have hba5 := (hfar ga gap gaq).trans hba4
   have hbb5 := (hfar gb gbp gbq).trans hbb4
   have hs5 : z5.heap.size = z4.heap.size := by rw [hz5, setCell_size, setCell_size]
   have hZ5 : Below w6.heap.size w6 z5 := by
    have h1 : w6.heap.size ≤ gp := Nat.le_trans HZ3.out.size hgp
    have h2 : w6.heap.size ≤ gq := Nat.le_trans HZ3.out.size hgq
    rw [hz5]
    exact (hZ4.setCell h1 _).setCell h2 _
   have m0 : z5.cell? ⟨gb, 0, none⟩ = some (.bool lb.f0) := (yaa_ hbb5 0).trans rfl
   have m1 : z5.cell? ⟨gb, 1, none⟩ = some (.int .i64 lb.f1.f0) := (yaa_ hbb5 1).trans rfl
   have m2 : z5.cell? ⟨gb, 2, none⟩ = some (.slice B1 lb.f1.f1.length d1) := (yaa_ hbb5 2).trans rfl
   have m3 : z5.cell? ⟨gb, 3, none⟩ = some (.int .i64 lb.f2.f0) := (yaa_ hbb5 3).trans rfl
   have m4 : z5.cell? ⟨gb, 4, none⟩ = some (.slice B2 lb.f2.f1.length d2) := (yaa_ hbb5 4).trans rfl
   have HZZ := Az_.mk hz5
   rw [hz5] at m0 m1 m2 m3 m4
   clear hz5 hfar hba4 hbb4 gap gaq gbp gbq hb4 hgp hgq hbp hbq
   go_wp2
   have hbt := heap_alloc_new z5 (.cells #[.bool lb.f0, .int .i64 lb.f2.f0, .slice B2 lb.f2.f1.length d2, .int .i64 lb.f1.f0, .slice B1 lb.f1.f1.length d1] 78)
   rw [hs5] at hbt
   have hb56 := bA_ (Below.refl z5.heap.size z5) (.cells #[.bool lb.f0, .int .i64 lb.f2.f0, .slice B2 lb.f2.f1.length d2, .int .i64 lb.f1.f0, .slice B1 lb.f1.f1.length d1] 78)
   rw [← HZZ.out]
   obtain ⟨z6, hz6⟩ : ∃ x, x = z5.alloc (.cells #[.bool lb.f0, .int .i64 lb.f2.f0, .slice B2 lb.f2.f1.length d2, .int .i64 lb.f1.f0, .slice B1 lb.f1.f1.length d1] 78) := ⟨_, rfl⟩
   rw [← hz6] at hbt hb56 ⊢
   have HZ6 := Az_.mk (hZ5.trans (hb56.mono hZ5.size))
   have hs6 : Az_ (z5.heap.size = ((z4.setCell ⟨gp, 0, none⟩ (.bool false)).setCell ⟨gq, 0, none⟩ (.bool true)).heap.size) := ⟨by rw [← HZZ.out]⟩
   clear hz6 p0 pz q0 qz hbq1 m0 m1 m2 m3 m4
   refine OrderRules_r15 (ga := ga) (gb := gb) (gp := gp) (gn := gq) (gt := z4.heap.size) (b := true) (p0 := false) (n0 := true) (tl := [la.f1, la.f1, la.f2, la.f2]) (by kernel_rfl) rfl (kB_ hba5 hb56) rfl (kB_ hbb5 hb56) rfl (kB_ hbp5 hb56) rfl (kB_ hbq5 hb56) rfl hbt ?_ ?_ ?_ ?_ ?_ ?_ ?_ ?_
   ·intro w1 hb; have h := Gr_calls (x := ⟨true, la.f1, la.f2⟩) (y := ⟨false, la.f1, la.f2⟩) (W := w1) FF.out.1 FF.out.1 (let L := LA.out.below (HZ6.out.trans (hb.mono HZ6.out.size)); ⟨L.l1, L.c1, L.l2, L.c2⟩) (let L := LA.out.below (HZ6.out.trans (hb.mono HZ6.out.size)); ⟨L.l1, L.c1, L.l2, L.c2⟩); rw [HTU.out.2.1] at h; exact h
   ·intro w1 hb; have h := Gr_calls (x := ⟨false, la.f1, la.f2⟩) (y := ⟨true, la.f1, la.f2⟩) (W := w1) FF.out.1 FF.out.1 (let L := LA.out.below (HZ6.out.trans (hb.mono HZ6.out.size)); ⟨L.l1, L.c1, L.l2, L.c2⟩) (let L := LA.out.below (HZ6.out.trans (hb.mono HZ6.out.size)); ⟨L.l1, L.c1, L.l2, L.c2⟩); rw [HTU.out.2.2] at h; exact h
   ·intro w1 hb; have h := Gr_calls (W := w1) FF.out.1 FF.out.2.1 (LA.out.below (HZ6.out.trans (hb.mono HZ6.out.size))) (LB.out.below (HZ6.out.trans (hb.mono HZ6.out.size))); rw [eab.out] at h; exact h
   ·intro w1 hb; have h := Gr_calls (x := la) (y := ⟨lb.f0, lb.f2, lb.f1⟩) (W := w1) FF.out.1 ⟨FF.out.2.1.2, FF.out.2.1.1⟩ (LA.out.below (HZ6.out.trans (hb.mono HZ6.out.size))) (let L := LB.out.below (HZ6.out.trans (hb.mono HZ6.out.size)); ⟨L.l2, L.c2, L.l1, L.c1⟩); rw [HTU.out.1, eab.out] at h; exact h
   ·intro w1 hb
    have L := LA.out.below (HZ6.out.trans (hb.mono HZ6.out.size))
    exact (order_Terms.calls true la.f1.f0 (fun _ => True) A1 c1 la.f1.f1 la.f2.f0 (fun _ => True) A2 c2 la.f2.f1 [la.f1, la.f1, la.f2, la.f2] w1 (Kd.V_mk L.l1 (Kd.F_mono (F_old k30_heap L.c1 (Below.refl _ _)) (fun _ _ => trivial))) (Kd.V_mk L.l2 (Kd.F_mono (F_old k30_heap L.c2 (Below.refl _ _)) (fun _ _ => trivial))) (by have := OTerms_of ⟨true, la.f1, la.f2⟩; exact this)).mono (fun e w2 h => by obtain ⟨v1, h1, h2, h3⟩ := h; obtain ⟨A9, c9, h9⟩ := Kd.N_slice h2; subst h9; exact ⟨_, h1, ⟨A9, c9, rfl, (Kd.N_reads' h2).2.1, (Kd.N_reads' h2).2.2⟩, h3⟩)
   ·intro w1 hb; exact Multi.calls [] [] none 0 none 0 w1 (Kd.C_nil k30 w1) (Nat.le_refl _) (Kd.C_nil k30 w1) (Nat.le_refl _) (fun x hx => by cases hx) (fun x hx => by cases hx) (by decide) (by decide)
   ·intro w1 A' c' hb hl hC
    have h := Multi.calls [la.f1, la.f1, la.f2, la.f2] [] A' c' none 0 w1 hC hl (Kd.C_nil k30 w1) (Nat.le_refl _) (by intro x hx; simp at hx; rcases hx with rfl | rfl | rfl | rfl <;> first | exact FF.out.1.1 | exact FF.out.1.2) (fun x hx => by cases hx) (by simp) (by simp)
    rw [multi_nil (List.cons_ne_nil _ _)] at h
    exact h
   intro v z7 hb7 hv27
   simp only [layL, Nat.reduceAdd, List.setIfInBounds_toArray, List.set_cons_zero, List.set_cons_succ, hv27]
   clear hv27
   generalize v 0 = t0
   generalize v 1 = t1
   generalize v 2 = t2
   generalize v 3 = t3
   generalize v 4 = t4
   generalize v 5 = t5
   generalize v 6 = t6
   generalize v 7 = t7
   generalize v 8 = t8
   generalize v 9 = t9
   generalize v 10 = t10
   generalize v 11 = t11
   generalize v 12 = t12
   generalize v 13 = t13
   generalize v 14 = t14
   generalize v 15 = t15
   generalize v 16 = t16
   generalize v 17 = t17
   generalize v 18 = t18
   generalize v 19 = t19
   generalize v 20 = t20
   generalize v 21 = t21
   generalize v 22 = t22
   generalize v 23 = t23
   generalize v 24 = t24
   generalize v 25 = t25
   generalize v 26 = t26
   clear v
   have HZ7 := Az_.mk (HB6.out.trans ((HZ6.out.trans (hb7.mono HZ6.out.size)).mono HB6.out.size))
   clear hb7
   go_wp2
   go_ret
   exact ⟨rfl, HZ7.out⟩
end
end Go.Proofs.Ytpfddihcikiofaa.P
section
namespace Go.Proofs.Ytpfddihcikiofaa.orderRules
open Go.ChangeShapes Go.WideShapes Go.ChangeAt Go.RowKit
set_option linter.unusedVariables false
theorem own : ownKnob Try.prog.godebug = none := by kernel_rfl
theorem laidOut : laidOutB Try.prog = true := by kernel_rfl
set_option maxRecDepth 100000 in
theorem lifted (os : Os) (started : os.Started) (H : Type) (enc : TypeId × Value → H) :
  ReturnsInHanded {} Try.checked os 19 .any (Rows.orderRulesSpec.pre6 enc Try.prog Try.f19 Rows.orderRulesRow.domain false) (Rows.orderRulesSpec.post enc Try.prog Try.f19 false true false false) := by
 refine returnsInHanded_of_change_sized (C := Try.checked) own started (by kernel_rfl) Try.func19
  (ChangeSpec.witness6 (enc := enc) (C := Try.checked) false ⟨#[], #[.slice none 0 0, .slice none 0 0], []⟩ 8 (by kernel_rfl) (by kernel_rfl) (by kernel_rfl) (by kernel_rfl)) ?_
 intro W base args ds gs before hval0 hW hcnd hsz0 _
 have hval : ∀ (j : Nat) t v, Try.f19.params[j]? = some t → args[j]? = some v → Value.okWide Try.prog W .any base t v := hval0
 have hW' := hW
 obtain ⟨p, q, hA0, hV, rfl, hfz, hnd⟩ := hW
 have hA : DataW.TrodAll enc Try.prog W 0 (fun _ => true) true Try.f19.params.toList args.toList ds p := hA0
 rw [Try.params19] at hA hval
 obtain ⟨v0, vs0, d0, ds0, p0, q0, hargs, rfl, rfl, h0, r0⟩ := trodAll_cons hA
 obtain ⟨v1, vs1, d1, ds1, p1, q1, rfl, rfl, rfl, h1, r1⟩ := trodAll_cons r0
 obtain ⟨rfl, rfl, rfl⟩ := trodAll_nil r1
 obtain rfl : args = #[v0, v1] := by cases args; simp_all
 obtain ⟨rfl, rfl⟩ := trodVars_none hV
 have k0 := h0
 have lt0 : ∀ x ∈ p0, x.block < W.heap.size := by obtain ⟨m, hm⟩ := k0; exact DataW.trod_lt m _ _ _ hm
 obtain ⟨t0, A0, c0, rfl, hc0, hC0⟩ := P.open_Lits (hval 0 65 v0 rfl rfl) h0
 have k1 := h1
 have lt1 : ∀ x ∈ p1, x.block < W.heap.size := by obtain ⟨m, hm⟩ := k1; exact DataW.trod_lt m _ _ _ hm
 obtain ⟨t1, A1, c1, rfl, hc1, hC1⟩ := P.open_Bs (hval 1 59 v1 rfl rfl) h1
 clear hA0 hval0 hsz0
 refine (P.OrderRules_walk t0 t1 A0 c0 A1 c1 W hC0 hc0 hC1 hc1).mono fun e W' ⟨he, bel⟩ => ?_
 subst he
 exact ⟨_, rfl, _, _, _, [], _, [], hW', trodAll_mk1 (shut_bool Try.underlying4 _), (trodAll_cons_mk (Below.trod laidOut (by kernel_rfl) (of_decide_eq_true (by kernel_rfl)) k0 bel lt0) (trodAll_cons_mk (Below.trod laidOut (by kernel_rfl) (of_decide_eq_true (by kernel_rfl)) k1 bel lt1) trodAll_mk0)), rfl, bel.frame _, fun h => by cases h⟩
theorem over : Rows.orderRulesRow.holds Try.pinned (OpenSpec.ofChange Rows.orderRulesSpec) :=
 OpenClaim.holds_of_wide 19 Try.f19 rfl rfl rfl rfl rfl rfl rfl ⟨rfl, rfl, rfl, rfl, rfl⟩ rfl rfl rfl rfl rfl (by kernel_rfl) Try.func19 (by kernel_rfl)
  (of_decide_eq_true (by kernel_rfl)) (by unfold Func.isWrapper; first | (rw [if_pos (by decide +kernel)]; kernel_rfl) | (rw [if_neg (by decide +kernel)]; exact ⟨rfl, rfl⟩))
  (fun os started H enc _ => lifted os started H enc)
end Go.Proofs.Ytpfddihcikiofaa.orderRules
namespace Go.Proofs.Ytpfddihcikiofaa
theorem orderRules_holds : Rows.OrderRulesSaid := orderRules.over
#print axioms orderRules_holds
end Go.Proofs.Ytpfddihcikiofaa
end
