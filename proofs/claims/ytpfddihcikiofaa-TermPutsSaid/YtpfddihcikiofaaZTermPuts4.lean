/- The law TermPuts holds of every input. Part 4 of 4: PxTermAt, GPlaceLaw, PxSoriteslaw06Under, GPlaceLaw2, GTpRegs, GTermPuts, LawTermPuts. -/
import Derived.Test.YtpfddihcikiofaaZTermPuts2
import Derived.Test.YtpfddihcikiofaaZTermPuts3
import Derived.Test.YtpfddihcikiofaaRows
import Derived.WalkKit
import Derived.ProofKit
import Derived.OpenShut
import Derived.ShutString
import Derived.ChangeOld
import Derived.Below
import Derived.SizedLaws
import Derived.Test.YtpfddihcikiofaaZTermPuts1
section
namespace Go.Proofs.Ytpfddihcikiofaa.P
open Go.RowKit Go.Proofs.YtpfddihcikiofaaW.PrintWords Go.Proofs.YtpfddihcikiofaaW.PrintLast Go.Proofs.YtpfddihcikiofaaW.PrintMore
attribute [local go_sem] max2_int min2_int max_two min_two max_three min_three max_four min_four
set_option linter.unusedVariables false
set_option linter.unusedSimpArgs false
def term_At.l0 : Nat → List Int → Int → Int → Int → List (S30) → Option (Int × (List (S30)) × Bool)
  | 0, _, _, _, _, _ => none
  | k + 1, x9, x10, x11, x171000, x171001 => if x11 < x10 then (if 0 ≤ x11 then (if x11 < (x9.length : Int) then ((term_parts.f x171000 x171001).bind fun t173 => (if (rd x9 x11) < 0 then (some (0, ([] : List (S30)), false)) else (if (rd x9 x11) ≥ (t173.length : Int) then (some (0, ([] : List (S30)), false)) else (if 0 ≤ (rd x9 x11) then (if (rd x9 x11) < (t173.length : Int) then (term_At.l0 k x9 x10 (wrap64 (x11 + 1)) ((rd_T30 t173 (rd x9 x11)).f0) ((rd_T30 t173 (rd x9 x11)).f1)) else (none)) else (none))))) else (none)) else (none)) else (some (x171000, x171001, true))
def term_At.f (k : Nat) (a0_0 : Int) (l0_1 : List (S30)) (l1 : List Int) : Option (Int × (List (S30)) × Bool) := term_At.l0 k l1 (l1.length : Int) 0 a0_0 l0_1
set_option maxHeartbeats 8000000 in
set_option maxRecDepth 100000 in
theorem term_At.calls (k : Nat) (a0_0 : Int) (P0_1_ : Nat → Prop) (A0_1 : Option Addr) (c0_1 : Nat) (l0_1 : List (S30)) (A1 : Option Addr) (c1 : Nat) (l1 : List Int) (r1 : Int) (r2 : List (S30)) (r3 : Bool) (w : World) (hs0_1 : Kd.V k30 30 w w.heap.size (fun k_ => P0_1_ k_) (.slice A0_1 l0_1.length c0_1) l0_1) (hr1 : Kd.C (Kd.int .i64) w A1 l1.length l1) (hc1 : l1.length ≤ c1) (h : term_At.f k a0_0 l0_1 l1 = some (r1, r2, r3)) :
    Calls Try.prog 27 #[.agg #[.int .i64 a0_0, .slice A0_1 l0_1.length c0_1], .slice A1 l1.length c1] w fun e w' => ∃ v1_ : Value, e = .returned (.tuple #[.agg #[.int .i64 r1, v1_], .bool r3]) ∧ Kd.V k30 30 w' w.heap.size (fun k_ => (P0_1_ k_ ∨ w.heap.size ≤ k_)) v1_ r2 ∧ Below w.heap.size w w' := by
  have hu30 := Try.underlying30
  have HO0_1 := Aside0.mk (show Kd.V k30 30 w w.heap.size (fun k_ => (P0_1_ k_ ∨ w.heap.size ≤ k_)) (.slice A0_1 l0_1.length c0_1) l0_1 from Kd.V_mono hs0_1 (fun k_ hk => .inl hk))
  have HR1 := Aside0.mk hr1
  have HC1 := Aside0.mk hc1
  clear hr1 hc1
  have HB := Aside0.mk (Below.refl w.heap.size w)
  have H : (term_At.l0 k l1 (l1.length : Int) 0 a0_0 l0_1) = some (r1, r2, r3) := h
  clear h
  have H' := Aside0.mk H
  clear H
  go_enter Try.func27, Try.ntmps27
  go_wp2_with (first | ((with_reducible refine gate_dst (N := 2) rfl ?_); (try (refine gate_guard (by rfl) ?_; dsimp only)); refine box_event ?hg (N := 2) ?hd (cs := #[.int .i64 a0_0, .slice A0_1 l0_1.length c0_1]) (t := 30) ?hr ?_; (case hd => rfl); (case hg => rfl); (case hr => first | (go_simp; done) | (go_simp; rfl)); intro gb170 hg w3 hbox hb; have n0_ := Aside0.mk (Kd.V_below (Kd.V_elderB (by (with_reducible repeat (first | apply Kd.V_alloc | apply Kd.V_drewN | apply Kd.V_drew)); exact HO0_1.out) gb170 (Nat.le_of_eq hg.symm)) hb); have n1_ := Aside0.mk (below_step (by repeat (first | (with_reducible first | exact HB.out | apply below_alloc | apply pw_below_drewN | apply below_drew1) | exact HB.out)) hb); have n2_ := Aside0.mk (hbox); have n3_ := Aside0.mk ((by rw [hg]; exact (below_size (by repeat (first | (with_reducible first | exact HB.out | apply below_alloc | apply pw_below_drewN | apply below_drew1) | exact HB.out))) : w.heap.size ≤ gb170)); have n4_ := Aside0.mk ((by rw [hg]; exact (below_size (by repeat (first | (with_reducible first | exact HB.out | apply below_alloc | apply pw_below_drewN | apply below_drew1) | exact HB.out))) : w.heap.size ≤ gb170)); clear HO0_1; clear HB; have HO0_1 := n0_; have HB := n1_; have BK170 := n2_; have GW170 := n3_; have GE170 := n4_; clear n0_ n1_ n2_ n3_ n4_; clear hb hbox hg) | ((with_reducible refine gate_dst (N := 4) rfl ?_); (try (refine gate_guard (by rfl) ?_; dsimp only)); refine box_event ?hg (N := 4) ?hd (cs := #[.int .i64 0, .slice none 0 0]) (t := 30) ?hr ?_; (case hd => rfl); (case hg => rfl); (case hr => first | (go_simp; done) | (go_simp; rfl)); intro gb171 hg w4 hbox hb; have n0_ := Aside0.mk (Kd.V_below (Kd.V_elderB (by (with_reducible repeat (first | apply Kd.V_alloc | apply Kd.V_drewN | apply Kd.V_drew)); exact HO0_1.out) gb171 (Nat.le_of_eq hg.symm)) hb); have n1_ := Aside0.mk (blk_below (g := gb170) (o := .cells #[.int .i64 a0_0, .slice A0_1 l0_1.length c0_1] 30 (0, 0)) (by (with_reducible repeat (first | refine blk_drewN ?_ _ | refine blk_drew ?_ | refine blk_alloc ?_ _)); exact BK170.out) hb); have n2_ := Aside0.mk (below_step (by repeat (first | (with_reducible first | exact HB.out | apply below_alloc | apply pw_below_drewN | apply below_drew1 | refine below_set ?_ GE170.out) | exact HB.out)) hb); have n3_ := Aside0.mk (hbox); have n4_ := Aside0.mk ((by rw [hg]; exact (below_size (by repeat (first | (with_reducible first | exact HB.out | apply below_alloc | apply pw_below_drewN | apply below_drew1 | refine below_set ?_ GE170.out) | exact HB.out))) : w.heap.size ≤ gb171)); have n5_ := Aside0.mk ((by rw [hg]; exact (below_size (by repeat (first | (with_reducible first | exact HB.out | apply below_alloc | apply pw_below_drewN | apply below_drew1 | refine below_set ?_ GE170.out) | exact HB.out))) : w.heap.size ≤ gb171)); have n6_ := Aside0.mk ((by rw [hg]; exact Nat.ne_of_lt (blk_lt (g := gb170) (o := .cells #[.int .i64 a0_0, .slice A0_1 l0_1.length c0_1] 30 (0, 0)) (by (with_reducible repeat (first | refine blk_drewN ?_ _ | refine blk_drew ?_ | refine blk_alloc ?_ _)); exact BK170.out)) : gb170 ≠ gb171)); have n7_ := Aside0.mk ((by rw [hg]; exact Nat.ne_of_gt (blk_lt (g := gb170) (o := .cells #[.int .i64 a0_0, .slice A0_1 l0_1.length c0_1] 30 (0, 0)) (by (with_reducible repeat (first | refine blk_drewN ?_ _ | refine blk_drew ?_ | refine blk_alloc ?_ _)); exact BK170.out)) : gb171 ≠ gb170)); clear HO0_1; clear BK170; clear HB; have HO0_1 := n0_; have BK170 := n1_; have HB := n2_; have BK171 := n3_; have GW171 := n4_; have GE171 := n5_; have NB170_171 := n6_; have NB171_170 := n7_; clear n0_ n1_ n2_ n3_ n4_ n5_ n6_ n7_; clear hb hbox hg))
  go_loopg [11] k (fun kq v11 w' => ∃ (x11_1 : Int) (x171000_1 : Int) (x171001_1 : List (S30)) (x172000_1 : Int) (u171001 : Value), v11 = .int .i64 x11_1 ∧ Aside0 (term_At.l0 kq l1 (l1.length : Int) x11_1 x171000_1 x171001_1 = some (r1, r2, r3)) ∧ Aside0 (kq ≤ k) ∧ Aside0 (Kd.V k30 30 w' w.heap.size (fun k_ => (P0_1_ k_ ∨ w.heap.size ≤ k_) ∧ k_ ≠ gb170 ∧ k_ ≠ gb171) u171001 x171001_1) ∧ Aside0 (w'.heap[gb170]? = some (.cells #[.int .i64 x171000_1, u171001] 30 (0, 0))) ∧ Aside0 (w'.heap[gb171]? = some (.cells #[.int .i64 x172000_1, (.slice none 0 0)] 30 (0, 0))) ∧ Aside0 (Below w.heap.size w w'))
  case atStart => exact ⟨(0), (a0_0), (l0_1), (0), (.slice A0_1 l0_1.length c0_1), (by first | rfl | (simp; done) | (simp [*]; done)), H', ⟨Nat.le_refl _⟩, ⟨by (with_reducible repeat (first | apply Kd.V_alloc | apply Kd.V_drewN | apply Kd.V_drew)); exact Kd.V_mono HO0_1.out (fun _ hk => ⟨hk.1.1, ⟨hk.1.2, hk.2⟩⟩)⟩, ⟨by (with_reducible repeat (first | refine blk_drewN ?_ _ | refine blk_drew ?_ | refine blk_alloc ?_ _)); exact BK170.out⟩, ⟨by (with_reducible repeat (first | refine blk_drewN ?_ _ | refine blk_drew ?_ | refine blk_alloc ?_ _)); exact BK171.out⟩, ⟨by repeat (first | (with_reducible first | exact HB.out | apply below_alloc | apply pw_below_drewN | apply below_drew1 | refine below_set ?_ GE170.out | refine below_set ?_ GE171.out) | exact HB.out)⟩⟩
  case round =>
    clear H'
    try clear c1
    try clear c2
    try clear p2
    obtain ⟨x11_1, x171000_1, x171001_1, x172000_1, u171001, rfl, HA, HK1, HO_171001, BK170, BK171, HB⟩ := hrel
    cases gk with
    | zero => exact absurd HA.out (by simp [term_At.l0])
    | succ k1 =>
      have H := HA.out
      clear HA
      simp only [term_At.l0] at H
      by_cases c5 : x11_1 < (l1.length : Int)
      · rw [if_pos c5] at H
        have c5b0 : decide (x11_1 < (l1.length : Int)) = true := decide_eq_true c5
        clear c5
        by_cases c6 : 0 ≤ x11_1
        · rw [if_pos c6] at H
          have c6b0 : decide (0 ≤ x11_1) = true := decide_eq_true c6
          clear c6
          by_cases c7 : x11_1 < (l1.length : Int)
          · rw [if_pos c7] at H
            have c7b0 : decide (x11_1 < (l1.length : Int)) = true := decide_eq_true c7
            clear c7
            replace H := Option.bind_eq_some_iff.mp H
            obtain ⟨t173, A80, H⟩ := H
            replace H : (if (rd l1 x11_1) < 0 then (some (0, ([] : List (S30)), false)) else (if (rd l1 x11_1) ≥ (t173.length : Int) then (some (0, ([] : List (S30)), false)) else (if 0 ≤ (rd l1 x11_1) then (if (rd l1 x11_1) < (t173.length : Int) then (term_At.l0 k1 l1 (l1.length : Int) (wrap64 (x11_1 + 1)) ((rd_T30 t173 (rd l1 x11_1)).f0) ((rd_T30 t173 (rd l1 x11_1)).f1)) else (none)) else (none)))) = some (r1, r2, r3) := H
            have A8 := Aside0.mk A80
            clear A80
            by_cases c9 : (rd l1 x11_1) < 0
            · rw [if_pos c9] at H
              have c9b0 : decide ((rd l1 x11_1) < 0) = true := decide_eq_true c9
              clear c9
              simp only [Option.some.injEq, Prod.mk.injEq] at H
              obtain ⟨rfl, rfl, rfl⟩ := H
              have p172 : 0 ≤ (x11_1 : Int) := of_decide_eq_true (by first | (with_reducible assumption) | assumption)
              have q172 : x11_1 < (l1.length : Int) := of_decide_eq_true (by first | (with_reducible assumption) | assumption)
              obtain ⟨ad172, e172, hx172_0⟩ := Kd.at_int HR1.out x11_1 p172 q172
              cases e172
              replace hx172_0 := (HB.out.cell (World.block_lt_of_cell? w _ hx172_0)).trans hx172_0
              replace p172 := eq_true p172
              replace q172 := eq_true q172
              have hnb10 := NB170_171.out
              have hnc10 := NB171_170.out
              have hcz11_0 : wr.cell? ⟨gb170, 0, none⟩ = some (.int .i64 x171000_1) := (blk_cell BK170.out 0).trans rfl
              have hcz11_1 : wr.cell? ⟨gb170, 1, none⟩ = some (u171001) := (blk_cell BK170.out 1).trans rfl
              have hfz11_0 := blk_frozen BK170.out 0
              have hfz11_1 := blk_frozen BK170.out 1
              obtain ⟨Ao12, co12, eo12⟩ := Kd.V_slice HO_171001.out
              subst eo12
              go_wp2_with (first | ((with_reducible refine gate_callee (f := 74) rfl ?_); refine goesL_ (some 16) rfl rfl Try.func74 (by kernel_rfl) rfl #[.agg #[.int .i64 x171000_1, .slice Ao12 x171001_1.length co12]] rfl (by (try simp only [List.map_toArray, List.map_cons, List.map_nil]); first | done | rfl | (simp only [List.length_drop, List.length_take]; rfl)) ?_; (with_reducible refine (term_parts.calls x171000_1 (fun k_ => ((P0_1_ k_ ∨ w.heap.size ≤ k_) ∧ (k_ ≠ gb170 ∧ k_ ≠ gb171))) _ _ x171001_1 t173 _ ?side1 A8.out).mono ?_); (case side1 => exact HO_171001.out); rintro e w13 ⟨v174, rfl, ho0, hb⟩; refine ⟨_, rfl, ?_⟩; have n0_ := Aside0.mk (Kd.V_below (by (with_reducible repeat (first | apply Kd.V_alloc | apply Kd.V_drewN | apply Kd.V_drew)); exact HO_171001.out) hb); have n1_ := Aside0.mk (Kd.V_lower (Kd.V_mono (ok' := fun k_ => (P0_1_ k_ ∨ w.heap.size ≤ k_) ∧ k_ ≠ gb170 ∧ k_ ≠ gb171) ho0 (fun k_ hk_ => ⟨Or.elim hk_ (fun hs_ => hs_.1) (fun hn_ => (.inr (Nat.le_trans (below_size (by repeat (first | (with_reducible first | exact HB.out | apply below_alloc | apply pw_below_drewN | apply below_drew1 | refine below_set ?_ GE170.out | refine below_set ?_ GE171.out) | exact HB.out))) hn_))), Or.elim hk_ (fun hs_ => hs_.2.1) (fun hn_ => (Kd.freshB (g := gb170) (o := .cells #[.int .i64 x171000_1, .slice Ao12 x171001_1.length co12] 30 (0, 0)) (by (with_reducible repeat (first | refine blk_drewN ?_ _ | refine blk_drew ?_ | refine blk_alloc ?_ _)); exact BK170.out) k_ hn_)), Or.elim hk_ (fun hs_ => hs_.2.2) (fun hn_ => (Kd.freshB (g := gb171) (o := .cells #[.int .i64 x172000_1, .slice none 0 0] 30 (0, 0)) (by (with_reducible repeat (first | refine blk_drewN ?_ _ | refine blk_drew ?_ | refine blk_alloc ?_ _)); exact BK171.out) k_ hn_))⟩)) (below_size (by repeat (first | (with_reducible first | exact HB.out | apply below_alloc | apply pw_below_drewN | apply below_drew1 | refine below_set ?_ GE170.out | refine below_set ?_ GE171.out) | exact HB.out)))); have n2_ := Aside0.mk (blk_below (g := gb170) (o := .cells #[.int .i64 x171000_1, .slice Ao12 x171001_1.length co12] 30 (0, 0)) (by (with_reducible repeat (first | refine blk_drewN ?_ _ | refine blk_drew ?_ | refine blk_alloc ?_ _)); exact BK170.out) hb); have n3_ := Aside0.mk (blk_below (g := gb171) (o := .cells #[.int .i64 x172000_1, .slice none 0 0] 30 (0, 0)) (by (with_reducible repeat (first | refine blk_drewN ?_ _ | refine blk_drew ?_ | refine blk_alloc ?_ _)); exact BK171.out) hb); have n4_ := Aside0.mk (below_step (by repeat (first | (with_reducible first | exact HB.out | apply below_alloc | apply pw_below_drewN | apply below_drew1 | refine below_set ?_ GE170.out | refine below_set ?_ GE171.out) | exact HB.out)) hb); clear HO_171001; clear BK170; clear BK171; clear HB; have HO_171001 := n0_; have HO175 := n1_; have BK170 := n2_; have BK171 := n3_; have HB := n4_; clear n0_ n1_ n2_ n3_ n4_; (try clear hb); (try clear hb2); (try clear hk); (try clear hi); (try clear ho0); have hcz14_0 : w13.cell? ⟨gb171, 0, none⟩ = some (.int .i64 x172000_1) := (blk_cell BK171.out 0).trans rfl; have hcz14_1 : w13.cell? ⟨gb171, 1, none⟩ = some (.slice none 0 0) := (blk_cell BK171.out 1).trans rfl; have hfz14_0 := blk_frozen BK171.out 0; have hfz14_1 := blk_frozen BK171.out 1))
              refine bodyPost_ret (results_ct rfl _ _ gb171 30 #[.int .i64 0, .slice none 0 0] (0, 0) _ rfl (by (with_reducible repeat (first | refine blk_drewN ?_ _ | refine blk_drew ?_ | refine blk_alloc ?_ _)); refine blk_put (cs := #[.int .i64 0, .slice none 0 0]) ?_ 1 _ rfl; (with_reducible repeat (first | refine blk_drewN ?_ _ | refine blk_drew ?_ | refine blk_alloc ?_ _)); refine blk_put (cs := #[.int .i64 x172000_1, .slice none 0 0]) ?_ 0 _ rfl; (with_reducible repeat (first | refine blk_drewN ?_ _ | refine blk_drew ?_ | refine blk_alloc ?_ _)); exact BK171.out) Try.underlying30 rfl (by kernel_rfl)) rfl ?_
              exact ⟨_, by first | rfl | (simp [errW_none, errW_some] <;> rfl) | (simp [*, errW_none, errW_some] <;> rfl), by first | exact Kd.R_nil _ _ _ _ _ | exact Kd.N_nil _ _ _ _ _ | exact Kd.V_nil _ _ _ _ _ | exact Kd.Q_nil _ _ _ _ _ | exact Kd.S_nil _ _ _ _ _, by repeat (first | (with_reducible first | exact HB.out | apply below_alloc | apply pw_below_drewN | apply below_drew1 | refine below_set ?_ GE170.out | refine below_set ?_ GE171.out) | exact HB.out)⟩
            · rw [if_neg c9] at H
              have c9b0 : decide ((rd l1 x11_1) < 0) = false := decide_eq_false c9
              clear c9
              by_cases c15 : (rd l1 x11_1) ≥ (t173.length : Int)
              · rw [if_pos c15] at H
                have c15b0 : decide ((t173.length : Int) ≤ (rd l1 x11_1)) = true := decide_eq_true c15
                clear c15
                simp only [Option.some.injEq, Prod.mk.injEq] at H
                obtain ⟨rfl, rfl, rfl⟩ := H
                have p172 : 0 ≤ (x11_1 : Int) := of_decide_eq_true (by first | (with_reducible assumption) | assumption)
                have q172 : x11_1 < (l1.length : Int) := of_decide_eq_true (by first | (with_reducible assumption) | assumption)
                obtain ⟨ad172, e172, hx172_0⟩ := Kd.at_int HR1.out x11_1 p172 q172
                cases e172
                replace hx172_0 := (HB.out.cell (World.block_lt_of_cell? w _ hx172_0)).trans hx172_0
                replace p172 := eq_true p172
                replace q172 := eq_true q172
                have hnb16 := NB170_171.out
                have hnc16 := NB171_170.out
                have hcz17_0 : wr.cell? ⟨gb170, 0, none⟩ = some (.int .i64 x171000_1) := (blk_cell BK170.out 0).trans rfl
                have hcz17_1 : wr.cell? ⟨gb170, 1, none⟩ = some (u171001) := (blk_cell BK170.out 1).trans rfl
                have hfz17_0 := blk_frozen BK170.out 0
                have hfz17_1 := blk_frozen BK170.out 1
                obtain ⟨Ao18, co18, eo18⟩ := Kd.V_slice HO_171001.out
                subst eo18
                go_wp2_with (first | ((with_reducible refine gate_callee (f := 74) rfl ?_); refine goesL_ (some 16) rfl rfl Try.func74 (by kernel_rfl) rfl #[.agg #[.int .i64 x171000_1, .slice Ao18 x171001_1.length co18]] rfl (by (try simp only [List.map_toArray, List.map_cons, List.map_nil]); first | done | rfl | (simp only [List.length_drop, List.length_take]; rfl)) ?_; (with_reducible refine (term_parts.calls x171000_1 (fun k_ => ((P0_1_ k_ ∨ w.heap.size ≤ k_) ∧ (k_ ≠ gb170 ∧ k_ ≠ gb171))) _ _ x171001_1 t173 _ ?side1 A8.out).mono ?_); (case side1 => exact HO_171001.out); rintro e w19 ⟨v174, rfl, ho0, hb⟩; refine ⟨_, rfl, ?_⟩; have n0_ := Aside0.mk (Kd.V_below (by (with_reducible repeat (first | apply Kd.V_alloc | apply Kd.V_drewN | apply Kd.V_drew)); exact HO_171001.out) hb); have n1_ := Aside0.mk (Kd.V_lower (Kd.V_mono (ok' := fun k_ => (P0_1_ k_ ∨ w.heap.size ≤ k_) ∧ k_ ≠ gb170 ∧ k_ ≠ gb171) ho0 (fun k_ hk_ => ⟨Or.elim hk_ (fun hs_ => hs_.1) (fun hn_ => (.inr (Nat.le_trans (below_size (by repeat (first | (with_reducible first | exact HB.out | apply below_alloc | apply pw_below_drewN | apply below_drew1 | refine below_set ?_ GE170.out | refine below_set ?_ GE171.out) | exact HB.out))) hn_))), Or.elim hk_ (fun hs_ => hs_.2.1) (fun hn_ => (Kd.freshB (g := gb170) (o := .cells #[.int .i64 x171000_1, .slice Ao18 x171001_1.length co18] 30 (0, 0)) (by (with_reducible repeat (first | refine blk_drewN ?_ _ | refine blk_drew ?_ | refine blk_alloc ?_ _)); exact BK170.out) k_ hn_)), Or.elim hk_ (fun hs_ => hs_.2.2) (fun hn_ => (Kd.freshB (g := gb171) (o := .cells #[.int .i64 x172000_1, .slice none 0 0] 30 (0, 0)) (by (with_reducible repeat (first | refine blk_drewN ?_ _ | refine blk_drew ?_ | refine blk_alloc ?_ _)); exact BK171.out) k_ hn_))⟩)) (below_size (by repeat (first | (with_reducible first | exact HB.out | apply below_alloc | apply pw_below_drewN | apply below_drew1 | refine below_set ?_ GE170.out | refine below_set ?_ GE171.out) | exact HB.out)))); have n2_ := Aside0.mk (blk_below (g := gb170) (o := .cells #[.int .i64 x171000_1, .slice Ao18 x171001_1.length co18] 30 (0, 0)) (by (with_reducible repeat (first | refine blk_drewN ?_ _ | refine blk_drew ?_ | refine blk_alloc ?_ _)); exact BK170.out) hb); have n3_ := Aside0.mk (blk_below (g := gb171) (o := .cells #[.int .i64 x172000_1, .slice none 0 0] 30 (0, 0)) (by (with_reducible repeat (first | refine blk_drewN ?_ _ | refine blk_drew ?_ | refine blk_alloc ?_ _)); exact BK171.out) hb); have n4_ := Aside0.mk (below_step (by repeat (first | (with_reducible first | exact HB.out | apply below_alloc | apply pw_below_drewN | apply below_drew1 | refine below_set ?_ GE170.out | refine below_set ?_ GE171.out) | exact HB.out)) hb); clear HO_171001; clear BK170; clear BK171; clear HB; have HO_171001 := n0_; have HO175 := n1_; have BK170 := n2_; have BK171 := n3_; have HB := n4_; clear n0_ n1_ n2_ n3_ n4_; (try clear hb); (try clear hb2); (try clear hk); (try clear hi); (try clear ho0); obtain ⟨Ao20, co20, eo20⟩ := Kd.V_slice HO175.out; subst eo20; have hcz21_0 : w19.cell? ⟨gb171, 0, none⟩ = some (.int .i64 x172000_1) := (blk_cell BK171.out 0).trans rfl; have hcz21_1 : w19.cell? ⟨gb171, 1, none⟩ = some (.slice none 0 0) := (blk_cell BK171.out 1).trans rfl; have hfz21_0 := blk_frozen BK171.out 0; have hfz21_1 := blk_frozen BK171.out 1))
                refine bodyPost_ret (results_ct rfl _ _ gb171 30 #[.int .i64 0, .slice none 0 0] (0, 0) _ rfl (by (with_reducible repeat (first | refine blk_drewN ?_ _ | refine blk_drew ?_ | refine blk_alloc ?_ _)); refine blk_put (cs := #[.int .i64 0, .slice none 0 0]) ?_ 1 _ rfl; (with_reducible repeat (first | refine blk_drewN ?_ _ | refine blk_drew ?_ | refine blk_alloc ?_ _)); refine blk_put (cs := #[.int .i64 x172000_1, .slice none 0 0]) ?_ 0 _ rfl; (with_reducible repeat (first | refine blk_drewN ?_ _ | refine blk_drew ?_ | refine blk_alloc ?_ _)); exact BK171.out) Try.underlying30 rfl (by kernel_rfl)) rfl ?_
                exact ⟨_, by first | rfl | (simp [errW_none, errW_some] <;> rfl) | (simp [*, errW_none, errW_some] <;> rfl), by first | exact Kd.R_nil _ _ _ _ _ | exact Kd.N_nil _ _ _ _ _ | exact Kd.V_nil _ _ _ _ _ | exact Kd.Q_nil _ _ _ _ _ | exact Kd.S_nil _ _ _ _ _, by repeat (first | (with_reducible first | exact HB.out | apply below_alloc | apply pw_below_drewN | apply below_drew1 | refine below_set ?_ GE170.out | refine below_set ?_ GE171.out) | exact HB.out)⟩
              · rw [if_neg c15] at H
                have c15b0 : decide ((t173.length : Int) ≤ (rd l1 x11_1)) = false := decide_eq_false c15
                clear c15
                by_cases c22 : 0 ≤ (rd l1 x11_1)
                · rw [if_pos c22] at H
                  have c22b0 : decide (0 ≤ (rd l1 x11_1)) = true := decide_eq_true c22
                  clear c22
                  by_cases c23 : (rd l1 x11_1) < (t173.length : Int)
                  · rw [if_pos c23] at H
                    have c23b0 : decide ((rd l1 x11_1) < (t173.length : Int)) = true := decide_eq_true c23
                    clear c23
                    have H' := Aside0.mk H
                    clear H
                    have p172 : 0 ≤ (x11_1 : Int) := of_decide_eq_true (by first | (with_reducible assumption) | assumption)
                    have q172 : x11_1 < (l1.length : Int) := of_decide_eq_true (by first | (with_reducible assumption) | assumption)
                    obtain ⟨ad172, e172, hx172_0⟩ := Kd.at_int HR1.out x11_1 p172 q172
                    cases e172
                    replace hx172_0 := (HB.out.cell (World.block_lt_of_cell? w _ hx172_0)).trans hx172_0
                    replace p172 := eq_true p172
                    replace q172 := eq_true q172
                    have hnb24 := NB170_171.out
                    have hnc24 := NB171_170.out
                    have hcz25_0 : wr.cell? ⟨gb170, 0, none⟩ = some (.int .i64 x171000_1) := (blk_cell BK170.out 0).trans rfl
                    have hcz25_1 : wr.cell? ⟨gb170, 1, none⟩ = some (u171001) := (blk_cell BK170.out 1).trans rfl
                    have hfz25_0 := blk_frozen BK170.out 0
                    have hfz25_1 := blk_frozen BK170.out 1
                    obtain ⟨Ao26, co26, eo26⟩ := Kd.V_slice HO_171001.out
                    subst eo26
                    go_wp2_with (first | ((with_reducible refine gate_callee (f := 74) rfl ?_); refine goesL_ (some 16) rfl rfl Try.func74 (by kernel_rfl) rfl #[.agg #[.int .i64 x171000_1, .slice Ao26 x171001_1.length co26]] rfl (by (try simp only [List.map_toArray, List.map_cons, List.map_nil]); first | done | rfl | (simp only [List.length_drop, List.length_take]; rfl)) ?_; (with_reducible refine (term_parts.calls x171000_1 (fun k_ => ((P0_1_ k_ ∨ w.heap.size ≤ k_) ∧ (k_ ≠ gb170 ∧ k_ ≠ gb171))) _ _ x171001_1 t173 _ ?side1 A8.out).mono ?_); (case side1 => exact HO_171001.out); rintro e w27 ⟨v174, rfl, ho0, hb⟩; refine ⟨_, rfl, ?_⟩; have n0_ := Aside0.mk (Kd.V_below (by (with_reducible repeat (first | apply Kd.V_alloc | apply Kd.V_drewN | apply Kd.V_drew)); exact HO_171001.out) hb); have n1_ := Aside0.mk (Kd.V_lower (Kd.V_mono (ok' := fun k_ => (P0_1_ k_ ∨ w.heap.size ≤ k_) ∧ k_ ≠ gb170 ∧ k_ ≠ gb171) ho0 (fun k_ hk_ => ⟨Or.elim hk_ (fun hs_ => hs_.1) (fun hn_ => (.inr (Nat.le_trans (below_size (by repeat (first | (with_reducible first | exact HB.out | apply below_alloc | apply pw_below_drewN | apply below_drew1 | refine below_set ?_ GE170.out | refine below_set ?_ GE171.out) | exact HB.out))) hn_))), Or.elim hk_ (fun hs_ => hs_.2.1) (fun hn_ => (Kd.freshB (g := gb170) (o := .cells #[.int .i64 x171000_1, .slice Ao26 x171001_1.length co26] 30 (0, 0)) (by (with_reducible repeat (first | refine blk_drewN ?_ _ | refine blk_drew ?_ | refine blk_alloc ?_ _)); exact BK170.out) k_ hn_)), Or.elim hk_ (fun hs_ => hs_.2.2) (fun hn_ => (Kd.freshB (g := gb171) (o := .cells #[.int .i64 x172000_1, .slice none 0 0] 30 (0, 0)) (by (with_reducible repeat (first | refine blk_drewN ?_ _ | refine blk_drew ?_ | refine blk_alloc ?_ _)); exact BK171.out) k_ hn_))⟩)) (below_size (by repeat (first | (with_reducible first | exact HB.out | apply below_alloc | apply pw_below_drewN | apply below_drew1 | refine below_set ?_ GE170.out | refine below_set ?_ GE171.out) | exact HB.out)))); have n2_ := Aside0.mk (blk_below (g := gb170) (o := .cells #[.int .i64 x171000_1, .slice Ao26 x171001_1.length co26] 30 (0, 0)) (by (with_reducible repeat (first | refine blk_drewN ?_ _ | refine blk_drew ?_ | refine blk_alloc ?_ _)); exact BK170.out) hb); have n3_ := Aside0.mk (blk_below (g := gb171) (o := .cells #[.int .i64 x172000_1, .slice none 0 0] 30 (0, 0)) (by (with_reducible repeat (first | refine blk_drewN ?_ _ | refine blk_drew ?_ | refine blk_alloc ?_ _)); exact BK171.out) hb); have n4_ := Aside0.mk (below_step (by repeat (first | (with_reducible first | exact HB.out | apply below_alloc | apply pw_below_drewN | apply below_drew1 | refine below_set ?_ GE170.out | refine below_set ?_ GE171.out) | exact HB.out)) hb); clear HO_171001; clear BK170; clear BK171; clear HB; have HO_171001 := n0_; have HO175 := n1_; have BK170 := n2_; have BK171 := n3_; have HB := n4_; clear n0_ n1_ n2_ n3_ n4_; (try clear hb); (try clear hb2); (try clear hk); (try clear hi); (try clear ho0); obtain ⟨Ao28, co28, eo28⟩ := Kd.V_slice HO175.out; subst eo28; have p176 : 0 ≤ ((rd l1 x11_1) : Int) := of_decide_eq_true (by first | (with_reducible assumption) | assumption); have q176 : (rd l1 x11_1) < (t173.length : Int) := of_decide_eq_true (by first | (with_reducible assumption) | assumption); obtain ⟨ad176, A176_1, c176_1, e176, hx176_0, hx176_1, hl176_1, hi176_1⟩ := at_T30 (Kd.V_reads' HO175.out).2.2 (rd l1 x11_1) p176 q176; cases e176; obtain ⟨ce176, hce176, hMe176, hcc176⟩ := Kd.V_get HO175.out z30 (rd l1 x11_1) p176 (by first | exact q176 | exact of_decide_eq_true (by first | (with_reducible assumption) | assumption) | (have e_ := (Kd.V_reads' HO175.out).1; omega)); obtain ⟨ua176_1, uc176_1, rfl, ul176_1, ge176_1⟩ := k30_openF hMe176; have hv176_1 := hcc176 1 _ rfl; rw [add_field _ _ 1 (by omega)] at hv176_1; replace hv176_1 := Option.some.inj (hv176_1.symm.trans hx176_1); injection hv176_1 with hva_ hvn_ hvc_; rw [hva_] at ge176_1; rw [hvc_] at ul176_1; have HL176_1 := Aside0.mk (show Kd.V k30 30 _ w.heap.size _ _ ((rd_T30 t173 (rd l1 x11_1)).f1) from Kd.V_mk ul176_1 ge176_1); clear hva_ hvn_ hvc_ ge176_1 ul176_1; clear hcc176 hce176; have HR176_1 := Aside0.mk hi176_1; have HC176_1 := Aside0.mk hl176_1; clear hi176_1 hl176_1; replace p176 := eq_true p176; replace q176 := eq_true q176; have hcz29_0 : w27.cell? ⟨gb170, 0, none⟩ = some (.int .i64 x171000_1) := (blk_cell BK170.out 0).trans rfl; have hcz29_1 : w27.cell? ⟨gb170, 1, none⟩ = some (.slice Ao26 x171001_1.length co26) := (blk_cell BK170.out 1).trans rfl; have hfz29_0 := blk_frozen BK170.out 0; have hfz29_1 := blk_frozen BK170.out 1))
                    go_roundg k1
                    case measure => have := HK1.out; omega
                    case rel => exact ⟨(wrap64 (x11_1 + 1)), ((rd_T30 t173 (rd l1 x11_1)).f0), ((rd_T30 t173 (rd l1 x11_1)).f1), (x172000_1), (.slice A176_1 ((rd_T30 t173 (rd l1 x11_1)).f1).length c176_1), (by first | rfl | (simp; done) | (simp [*]; done)), H', ⟨by have := HK1.out; omega⟩, ⟨by (with_reducible repeat (first | apply Kd.V_alloc | apply Kd.V_drewN | apply Kd.V_drew)); exact Kd.V_mono (Kd.V_far (p := ⟨gb170, 1, none⟩) (Kd.V_far (p := ⟨gb170, 0, none⟩) (Kd.V_mono HL176_1.out (fun k_ hk => (⟨hk, hk.2.1⟩ : _ ∧ k_ ≠ gb170))) (fun _ hk => hk.2) (.int .i64 ((rd_T30 t173 (rd l1 x11_1)).f0))) (fun _ hk => hk.2) (.slice A176_1 ((rd_T30 t173 (rd l1 x11_1)).f1).length c176_1)) (fun _ hk => ⟨hk.1.1, ⟨hk.1.2.1, hk.1.2.2⟩⟩)⟩, ⟨by (with_reducible repeat (first | refine blk_drewN ?_ _ | refine blk_drew ?_ | refine blk_alloc ?_ _)); refine blk_put (cs := #[.int .i64 ((rd_T30 t173 (rd l1 x11_1)).f0), .slice Ao26 x171001_1.length co26]) ?_ 1 _ rfl; (with_reducible repeat (first | refine blk_drewN ?_ _ | refine blk_drew ?_ | refine blk_alloc ?_ _)); refine blk_put (cs := #[.int .i64 x171000_1, .slice Ao26 x171001_1.length co26]) ?_ 0 _ rfl; (with_reducible repeat (first | refine blk_drewN ?_ _ | refine blk_drew ?_ | refine blk_alloc ?_ _)); exact BK170.out⟩, ⟨by (with_reducible repeat (first | refine blk_drewN ?_ _ | refine blk_drew ?_ | refine blk_alloc ?_ _)); refine blk_far ?_ NB171_170.out _; (with_reducible repeat (first | refine blk_drewN ?_ _ | refine blk_drew ?_ | refine blk_alloc ?_ _)); refine blk_far ?_ NB171_170.out _; (with_reducible repeat (first | refine blk_drewN ?_ _ | refine blk_drew ?_ | refine blk_alloc ?_ _)); exact BK171.out⟩, ⟨by repeat (first | (with_reducible first | exact HB.out | apply below_alloc | apply pw_below_drewN | apply below_drew1 | refine below_set ?_ GE170.out | refine below_set ?_ GE171.out) | exact HB.out)⟩⟩
                  · rw [if_neg c23] at H
                    exact absurd H (by simp)
                · rw [if_neg c22] at H
                  exact absurd H (by simp)
          · rw [if_neg c7] at H
            exact absurd H (by simp)
        · rw [if_neg c6] at H
          exact absurd H (by simp)
      · rw [if_neg c5] at H
        have c5b0 : decide (x11_1 < (l1.length : Int)) = false := decide_eq_false c5
        clear c5
        simp only [Option.some.injEq, Prod.mk.injEq] at H
        obtain ⟨rfl, rfl, rfl⟩ := H
        have hnb30 := NB170_171.out
        have hnc30 := NB171_170.out
        have hcz31_0 : wr.cell? ⟨gb170, 0, none⟩ = some (.int .i64 x171000_1) := (blk_cell BK170.out 0).trans rfl
        have hcz31_1 : wr.cell? ⟨gb170, 1, none⟩ = some (u171001) := (blk_cell BK170.out 1).trans rfl
        have hfz31_0 := blk_frozen BK170.out 0
        have hfz31_1 := blk_frozen BK170.out 1
        have hcz32_0 : wr.cell? ⟨gb171, 0, none⟩ = some (.int .i64 x172000_1) := (blk_cell BK171.out 0).trans rfl
        have hcz32_1 : wr.cell? ⟨gb171, 1, none⟩ = some (.slice none 0 0) := (blk_cell BK171.out 1).trans rfl
        have hfz32_0 := blk_frozen BK171.out 0
        have hfz32_1 := blk_frozen BK171.out 1
        obtain ⟨Ao33, co33, eo33⟩ := Kd.V_slice HO_171001.out
        subst eo33
        go_wp2
        refine bodyPost_ret (results_ct rfl _ _ gb171 30 #[.int .i64 x171000_1, .slice Ao33 x171001_1.length co33] (0, 0) _ rfl (by (with_reducible repeat (first | refine blk_drewN ?_ _ | refine blk_drew ?_ | refine blk_alloc ?_ _)); refine blk_put (cs := #[.int .i64 x171000_1, .slice none 0 0]) ?_ 1 _ rfl; (with_reducible repeat (first | refine blk_drewN ?_ _ | refine blk_drew ?_ | refine blk_alloc ?_ _)); refine blk_put (cs := #[.int .i64 x172000_1, .slice none 0 0]) ?_ 0 _ rfl; (with_reducible repeat (first | refine blk_drewN ?_ _ | refine blk_drew ?_ | refine blk_alloc ?_ _)); exact BK171.out) Try.underlying30 rfl (by kernel_rfl)) rfl ?_
        exact ⟨_, by first | rfl | (simp [errW_none, errW_some] <;> rfl) | (simp [*, errW_none, errW_some] <;> rfl), by (with_reducible repeat (first | apply Kd.V_alloc | apply Kd.V_drewN | apply Kd.V_drew)); exact Kd.V_mono (Kd.V_far (p := ⟨gb171, 1, none⟩) (Kd.V_far (p := ⟨gb171, 0, none⟩) (Kd.V_mono HO_171001.out (fun k_ hk => (⟨hk, hk.2.2⟩ : _ ∧ k_ ≠ gb171))) (fun _ hk => hk.2) (.int .i64 x171000_1)) (fun _ hk => hk.2) (.slice Ao33 x171001_1.length co33)) (fun _ hk => hk.1.1), by repeat (first | (with_reducible first | exact HB.out | apply below_alloc | apply pw_below_drewN | apply below_drew1 | refine below_set ?_ GE170.out | refine below_set ?_ GE171.out) | exact HB.out)⟩
end Go.Proofs.Ytpfddihcikiofaa.P
end

section
namespace Go.Proofs.Ytpfddihcikiofaa.P
open Go.RowKit Go.Proofs.YtpfddihcikiofaaW.PrintWords Go.Proofs.YtpfddihcikiofaaW.PrintLast Go.Proofs.YtpfddihcikiofaaW.PrintMore
set_option linter.unusedVariables false
set_option linter.unusedSimpArgs false
theorem eqv_symm {a b : S30} (h : cmpT a b = 0) : cmpT b a = 0 := by have := cmp_anti a b; omega
theorem eqv_trans {a b c : S30} (h : cmpT a b = 0) (h2 : cmpT b c = 0) : cmpT a c = 0 := by
  have := cmp_trans a b c (by omega) (by omega)
  exact this.2.2 ⟨h, h2⟩
theorem cmp_zero' {f g : Int} {l m : List S30} (hfg : f = g) (h : ¬ f < 0 → l.length = m.length ∧ cmpTs l m = 0) : cmpT ⟨f, l⟩ ⟨g, m⟩ = 0 := by
  subst hfg
  by_cases hf : f < 0
  · simp [cmpT, hf, cmpI_self]
  · obtain ⟨h1, h2⟩ := h hf
    simp [cmpT, hf, cmpI_self, h1, orI, h2]
theorem cmpTs_zero_iff : ∀ l m : List S30, l.length = m.length → (cmpTs l m = 0 ↔ ∀ (j : Nat) (x y : S30), l[j]? = some x → m[j]? = some y → cmpT x y = 0)
  | [], [], _ => by simp [cmpTs]
  | x :: l, y :: m, h => by
    rw [cmpTs]
    have ih := cmpTs_zero_iff l m (by simpa using h)
    by_cases h0 : cmpT x y = 0
    · rw [if_pos h0, ih]
      constructor
      · intro h1 j a b ha hb
        cases j with
        | zero => simp at ha hb; subst ha hb; exact h0
        | succ j => simp at ha hb; exact h1 j a b ha hb
      · intro h1 j a b ha hb
        exact h1 (j + 1) a b (by simpa using ha) (by simpa using hb)
    · rw [if_neg h0]
      constructor
      · intro h1; exact absurd h1 h0
      · intro h1; exact absurd (h1 0 x y rfl rfl) h0
theorem eqv_nums : ∀ a b : S30, cmpT a b = 0 → (nodes a).map (·.f0) = (nodes b).map (·.f0) := by
  refine S30.ind ?_
  intro f l ih b h
  obtain ⟨g, m⟩ := b
  obtain ⟨rfl, h2⟩ := cmp_zero h
  by_cases hf : f < 0
  · simp [nodes, hf]
  · obtain ⟨h3, h4⟩ := h2 hf
    have key : ∀ (l m : List S30), (∀ x ∈ l, ∀ y, cmpT x y = 0 → (nodes x).map (·.f0) = (nodes y).map (·.f0)) → l.length = m.length → cmpTs l m = 0 → (nodess l).map (·.f0) = (nodess m).map (·.f0) := by
      intro l
      induction l with
      | nil => intro m _ hl _; cases m with
        | nil => rfl
        | cons => simp at hl
      | cons x l ihl =>
        intro m h hl hc
        cases m with
        | nil => simp at hl
        | cons y m =>
          rw [cmpTs] at hc
          split at hc
          · rename_i h0
            rw [nodess, nodess, List.map_append, List.map_append, h x (by simp) y h0, ihl m (fun x hx => h x (by simp [hx])) (by simpa using hl) hc]
          · rename_i h0; contradiction
    have := key l m (fun x hx y => ih x hx y) h3 h4
    simp [nodes, hf, this]
theorem eqv_fit {a b : S30} (h : cmpT a b = 0) (ha : fit a) : fit b := by
  have h1 := eqv_nums a b h
  refine ⟨by rw [← cmp_len a b h]; exact ha.1, fun x hx => ?_⟩
  have h2 : x.f0 ∈ (nodes b).map (·.f0) := List.mem_map_of_mem hx
  rw [← h1, List.mem_map] at h2
  obtain ⟨y, hy, e⟩ := h2
  rw [← e]
  exact ha.2 y hy
def atT : List Int → S30 → Option S30
  | [], t => some t
  | i :: q, t => if i < 0 ∨ ((partsT t).length : Int) ≤ i then none else atT q (rd_T30 (partsT t) i)
def put0 : List Int → S30 → S30 → Option S30
  | [], _, u => some u
  | i :: q, t, u => if i < 0 ∨ ((partsT t).length : Int) ≤ i then none else (put0 q (rd_T30 (partsT t) i) u).map fun x => ⟨t.f0, t.f1.set i.toNat x⟩
theorem parts_at {t : S30} {i : Int} (h : ¬ (i < 0 ∨ ((partsT t).length : Int) ≤ i)) : ¬ t.f0 < 0 ∧ ∃ hi : i.toNat < t.f1.length, rd_T30 (partsT t) i = t.f1[i.toNat] := by
  unfold partsT at *
  by_cases hf : t.f0 < 0
  · simp [hf] at h; omega
  · simp only [hf, if_false] at *
    refine ⟨fun h => h, by omega, ?_⟩
    rw [← rdC_at t.f1 i.toNat (by omega)]
    congr 1
    omega
theorem put_eqv : ∀ (q : List Int) (t u : S30), match put0 q t u, putT q t u with
    | some z, some z' => cmpT z' z = 0
    | none, none => True
    | _, _ => False
  | [], t, u => by simp only [put0, putT]; exact cmp_clone u
  | i :: q, t, u => by
    simp only [put0, putT]
    by_cases h : i < 0 ∨ ((partsT t).length : Int) ≤ i
    · rw [if_pos h, if_pos h]; trivial
    · rw [if_neg h, if_neg h]
      obtain ⟨hf, hi, hrd⟩ := parts_at h
      have ih := put_eqv q (rd_T30 (partsT t) i) u
      cases h0 : put0 q (rd_T30 (partsT t) i) u with
      | none => rw [h0] at ih; cases h1 : putT q (rd_T30 (partsT t) i) u with
        | none => trivial
        | some z' => rw [h1] at ih; exact ih
      | some z =>
        rw [h0] at ih
        cases h1 : putT q (rd_T30 (partsT t) i) u with
        | none => rw [h1] at ih; exact ih
        | some z' =>
          rw [h1] at ih
          simp only [Option.map_some]
          refine cmp_zero' rfl (fun _ => ?_)
          have hp : (cloneT t).f1 = t.f1.map cloneT := by rw [parts_clone]; unfold partsT; rw [if_neg hf]
          have hlen : ((cloneT t).f1.set i.toNat z').length = (t.f1.set i.toNat z).length := by rw [hp]; simp
          refine ⟨hlen, (cmpTs_zero_iff _ _ hlen).2 (fun j x y hx hy => ?_)⟩
          rw [hp] at hx
          by_cases hj : j = i.toNat
          · subst hj
            rw [List.getElem?_set_self (by simpa using hi)] at hx
            rw [List.getElem?_set_self hi] at hy
            injection hx with hx
            injection hy with hy
            rw [← hx, ← hy]
            exact ih
          · rw [List.getElem?_set_ne (fun e => hj e.symm)] at hx hy
            rw [List.getElem?_map, hy] at hx
            injection hx with hx
            rw [← hx]
            exact cmp_clone y
theorem countN_nodes {f : Int} {l : List S30} (hf : ¬ f < 0) (v : Int) (hv : v < 0) : countN v (nodes ⟨f, l⟩) = countN v (nodess l) := by
  have hn : nodes ⟨f, l⟩ = ⟨f, l⟩ :: nodess l := by simp [nodes, hf]
  rw [hn]
  unfold countN
  rw [List.filter_cons_of_neg]
  simp
  omega
theorem nodess_app (a b : List S30) : nodess (a ++ b) = nodess a ++ nodess b := by
  induction a with
  | nil => rfl
  | cons x a ih => rw [List.cons_append, nodess, nodess, ih, List.append_assoc]
theorem nodess_split (l : List S30) (i : Nat) (hi : i < l.length) (y : S30) : nodess (l.set i y) = nodess (l.take i) ++ nodes y ++ nodess (l.drop (i + 1)) := by
  have h : l.set i y = l.take i ++ ([y] ++ l.drop (i + 1)) := by rw [List.set_eq_take_append_cons_drop, if_pos hi]; rfl
  rw [h, nodess_app, nodess_app]
  simp [nodess]
theorem nodess_split' (l : List S30) (i : Nat) (hi : i < l.length) : nodess l = nodess (l.take i) ++ nodes l[i] ++ nodess (l.drop (i + 1)) := by
  have := nodess_split l i hi l[i]
  rw [List.set_getElem_self] at this
  exact this
theorem put_at : ∀ (q : List Int) (t s : S30), atT q t = some s → put0 q t s = some t
  | [], t, s, h => by simp only [atT, Option.some.injEq] at h; simp only [put0, h]
  | i :: q, t, s, h => by
    simp only [atT, put0] at h ⊢
    by_cases hc : i < 0 ∨ ((partsT t).length : Int) ≤ i
    · rw [if_pos hc] at h; cases h
    · rw [if_neg hc] at h ⊢
      obtain ⟨hf, hi, hrd⟩ := parts_at hc
      rw [put_at q _ s h, Option.map_some, hrd, List.set_getElem_self, S30.eta]
theorem put_some : ∀ (q : List Int) (t s u : S30), atT q t = some s → ∃ z, put0 q t u = some z
  | [], t, s, u, h => ⟨u, rfl⟩
  | i :: q, t, s, u, h => by
    simp only [atT, put0] at h ⊢
    by_cases hc : i < 0 ∨ ((partsT t).length : Int) ≤ i
    · rw [if_pos hc] at h; cases h
    · rw [if_neg hc] at h ⊢
      obtain ⟨z, hz⟩ := put_some q _ s u h
      exact ⟨_, by rw [hz]; rfl⟩
theorem parts_set {f : Int} {l : List S30} (hf : ¬ f < 0) : partsT ⟨f, l⟩ = l := by unfold partsT; rw [if_neg hf]
theorem at_put : ∀ (q : List Int) (t u z : S30), put0 q t u = some z → atT q z = some u
  | [], t, u, z, h => by simp only [put0, Option.some.injEq] at h; simp only [atT, h]
  | i :: q, t, u, z, h => by
    simp only [put0] at h
    by_cases hc : i < 0 ∨ ((partsT t).length : Int) ≤ i
    · rw [if_pos hc] at h; cases h
    · rw [if_neg hc] at h
      obtain ⟨hf, hi, hrd⟩ := parts_at hc
      rw [Option.map_eq_some_iff] at h
      obtain ⟨a, ha, rfl⟩ := h
      have hi2 : i = (i.toNat : Int) := by omega
      have hpl : (partsT t).length = t.f1.length := by unfold partsT; rw [if_neg hf]
      have hrd2 : rd_T30 (t.f1.set i.toNat a) i = a := by
        have := rdC_at (t.f1.set i.toNat a) i.toNat (by simpa using hi)
        rw [← hi2] at this
        rw [this]
        simp
      simp only [atT]
      rw [parts_set hf, if_neg (by rw [List.length_set]; omega), hrd2]
      exact at_put q _ u a ha
theorem put_put : ∀ (q : List Int) (t u z w : S30), put0 q t u = some z → put0 q z w = put0 q t w
  | [], t, u, z, w, h => rfl
  | i :: q, t, u, z, w, h => by
    simp only [put0] at h ⊢
    by_cases hc : i < 0 ∨ ((partsT t).length : Int) ≤ i
    · rw [if_pos hc] at h; cases h
    · rw [if_neg hc] at h ⊢
      obtain ⟨hf, hi, hrd⟩ := parts_at hc
      rw [Option.map_eq_some_iff] at h
      obtain ⟨a, ha, rfl⟩ := h
      have hi2 : i = (i.toNat : Int) := by omega
      have hpl : (partsT t).length = t.f1.length := by unfold partsT; rw [if_neg hf]
      have hrd2 : rd_T30 (t.f1.set i.toNat a) i = a := by
        have := rdC_at (t.f1.set i.toNat a) i.toNat (by simpa using hi)
        rw [← hi2] at this
        rw [this]
        simp
      rw [parts_set hf, if_neg (by rw [List.length_set]; omega), hrd2, put_put q _ u a w ha]
      simp only [List.set_set]
theorem put_len : ∀ (q : List Int) (t s u z : S30), atT q t = some s → put0 q t u = some z → (nodes z).length + (nodes s).length = (nodes t).length + (nodes u).length
  | [], t, s, u, z, h, h2 => by simp only [atT, put0, Option.some.injEq] at h h2; subst h h2; omega
  | i :: q, t, s, u, z, h, h2 => by
    simp only [atT, put0] at h h2
    by_cases hc : i < 0 ∨ ((partsT t).length : Int) ≤ i
    · rw [if_pos hc] at h; cases h
    · rw [if_neg hc] at h h2
      obtain ⟨hf, hi, hrd⟩ := parts_at hc
      rw [Option.map_eq_some_iff] at h2
      obtain ⟨a, ha, rfl⟩ := h2
      have ih := put_len q _ s u a h ha
      rw [hrd] at ih
      have hn : ∀ l : List S30, (nodes ⟨t.f0, l⟩).length = 1 + (nodess l).length := fun l => by simp [nodes, hf]; omega
      have h0 := hn t.f1
      rw [S30.eta] at h0
      have h1 := congrArg List.length (nodess_split' t.f1 i.toNat hi)
      rw [hn, nodess_split t.f1 i.toNat hi, h0, h1]
      simp only [List.length_append]
      omega
theorem at_sub : ∀ (q : List Int) (t s : S30), atT q t = some s → (∀ v, v < 0 → countN v (nodes s) ≤ countN v (nodes t)) ∧ (nodes s).length ≤ (nodes t).length ∧ (q ≠ [] → (nodes s).length < (nodes t).length) ∧ (∀ x ∈ nodes s, x ∈ nodes t)
  | [], t, s, h => by simp only [atT, Option.some.injEq] at h; subst h; exact ⟨fun _ _ => Nat.le_refl _, Nat.le_refl _, fun h => absurd rfl h, fun x hx => hx⟩
  | i :: q, t, s, h => by
    simp only [atT] at h
    by_cases hc : i < 0 ∨ ((partsT t).length : Int) ≤ i
    · rw [if_pos hc] at h; cases h
    · rw [if_neg hc] at h
      obtain ⟨hf, hi, hrd⟩ := parts_at hc
      have ih := at_sub q _ s h
      rw [hrd] at ih
      have hn : nodes t = t :: nodess t.f1 := by
        obtain ⟨f, l⟩ := t
        have hf' : ¬ f < 0 := hf
        simp [nodes, hf']
      have hsp := nodess_split' t.f1 i.toNat hi
      refine ⟨fun v hv => ?_, ?_, fun _ => ?_, fun x hx => ?_⟩
      · have h1 := ih.1 v hv
        have h2 : countN v (nodes t) = countN v (nodess t.f1) := by have := countN_nodes (f := t.f0) (l := t.f1) hf v hv; rwa [S30.eta] at this
        rw [h2, hsp, countN_append, countN_append]
        omega
      · rw [hn, List.length_cons, hsp, List.length_append, List.length_append]; have := ih.2.1; omega
      · rw [hn, List.length_cons, hsp, List.length_append, List.length_append]; have := ih.2.1; omega
      · rw [hn, hsp]
        exact List.mem_cons_of_mem _ (List.mem_append_left _ (List.mem_append_right _ (ih.2.2.2 x hx)))
theorem at_fit {q : List Int} {t s : S30} (h : atT q t = some s) (hf : fit t) : fit s := by
  have h1 := at_sub q t s h
  exact ⟨Nat.le_trans h1.2.1 hf.1, fun x hx => hf.2 x (h1.2.2.2 x hx)⟩
theorem put_nums : ∀ (q : List Int) (t u z : S30), put0 q t u = some z → ∀ x ∈ nodes z, (∃ y ∈ nodes t, x.f0 = y.f0) ∨ (∃ y ∈ nodes u, x.f0 = y.f0)
  | [], t, u, z, h, x, hx => by simp only [put0, Option.some.injEq] at h; subst h; exact .inr ⟨x, hx, rfl⟩
  | i :: q, t, u, z, h, x, hx => by
    simp only [put0] at h
    by_cases hc : i < 0 ∨ ((partsT t).length : Int) ≤ i
    · rw [if_pos hc] at h; cases h
    · rw [if_neg hc] at h
      obtain ⟨hf, hi, hrd⟩ := parts_at hc
      rw [Option.map_eq_some_iff] at h
      obtain ⟨a, ha, rfl⟩ := h
      have ih := put_nums q _ u a ha
      rw [hrd] at ih
      have hn : nodes t = t :: nodess t.f1 := by
        obtain ⟨f, l⟩ := t
        have hf' : ¬ f < 0 := hf
        simp [nodes, hf']
      have hn2 : nodes ⟨t.f0, t.f1.set i.toNat a⟩ = ⟨t.f0, t.f1.set i.toNat a⟩ :: nodess (t.f1.set i.toNat a) := by simp [nodes, hf]
      rw [hn2, nodess_split t.f1 i.toNat hi] at hx
      have hsp := nodess_split' t.f1 i.toNat hi
      rcases List.mem_cons.1 hx with rfl | hx
      · exact .inl ⟨t, by rw [hn]; exact List.mem_cons_self, rfl⟩
      · rw [List.mem_append, List.mem_append] at hx
        rcases hx with (hx | hx) | hx
        · exact .inl ⟨x, by rw [hn, hsp]; exact List.mem_cons_of_mem _ (List.mem_append_left _ (List.mem_append_left _ hx)), rfl⟩
        · rcases ih x hx with ⟨y, hy, e⟩ | h2
          · exact .inl ⟨y, by rw [hn, hsp]; exact List.mem_cons_of_mem _ (List.mem_append_left _ (List.mem_append_right _ hy)), e⟩
          · exact .inr h2
        · exact .inl ⟨x, by rw [hn, hsp]; exact List.mem_cons_of_mem _ (List.mem_append_right _ hx), rfl⟩
theorem put_fit {q : List Int} {t u z : S30} (h : put0 q t u = some z) (hn : (nodes z).length ≤ 1000000) (ht : fit t) (hu : fit u) : fit z := by
  refine ⟨hn, fun x hx => ?_⟩
  rcases put_nums q t u z h x hx with ⟨y, hy, e⟩ | ⟨y, hy, e⟩
  · rw [e]; exact ht.2 y hy
  · rw [e]; exact hu.2 y hy
mutual
theorem flatP_at : ∀ (pre : List Int) (t : S30), ∀ e ∈ flatP pre t, ∃ q, e.1 = pre ++ q ∧ atT q t = some e.2
  | pre, ⟨f, l⟩, e, he => by
    rw [flatP] at he
    rcases List.mem_cons.1 he with rfl | he
    · exact ⟨[], by simp, rfl⟩
    · split at he
      · cases he
      · rename_i hf
        obtain ⟨i, q, h1, h2, h3⟩ := flatPs_at pre 0 l e he
        refine ⟨((i : Nat) : Int) :: q, by simpa using h1, ?_⟩
        simp only [atT]
        rw [parts_set hf, if_neg (by omega), rdC_at l i h2]
        exact h3 h2
theorem flatPs_at : ∀ (pre : List Int) (k : Nat) (l : List S30), ∀ e ∈ flatPs pre k l, ∃ (i : Nat) (q : List Int), e.1 = pre ++ ((k + i : Nat) : Int) :: q ∧ i < l.length ∧ ∀ h : i < l.length, atT q l[i] = some e.2
  | _, _, [], e, he => by cases he
  | pre, k, x :: r, e, he => by
    rw [flatPs] at he
    rcases List.mem_append.1 he with he | he
    · obtain ⟨q, h1, h2⟩ := flatP_at _ x e he
      exact ⟨0, q, by rw [h1]; simp, by simp, fun _ => h2⟩
    · obtain ⟨i, q, h1, h2, h3⟩ := flatPs_at pre (k + 1) r e he
      refine ⟨i + 1, q, by rw [h1, show k + 1 + i = k + (i + 1) by omega], by simp; omega, fun h => ?_⟩
      simpa using h3 h2
end
theorem at_len : ∀ (q : List Int) (t s : S30), atT q t = some s → q.length < (nodes t).length
  | [], t, _, _ => by have := nodes_pos t; simp; omega
  | i :: q, t, s, h => by
    simp only [atT] at h
    by_cases hc : i < 0 ∨ ((partsT t).length : Int) ≤ i
    · rw [if_pos hc] at h; cases h
    · rw [if_neg hc] at h
      obtain ⟨hf, hi, hrd⟩ := parts_at hc
      have ih := at_len q _ s h
      rw [hrd] at ih
      have hn : nodes t = t :: nodess t.f1 := by
        obtain ⟨f, l⟩ := t
        have hf' : ¬ f < 0 := hf
        simp [nodes, hf']
      have hsp := nodess_split' t.f1 i.toNat hi
      rw [hn, hsp]
      simp only [List.length_cons, List.length_append]
      omega
def atR (o : Option S30) : Int × List S30 × Bool := match o with
  | some x => (x.f0, x.f1, true)
  | none => (0, [], false)
theorem At_spec : ∀ (q pre : List Int) (t : S30), fit t → (pre ++ q).length ≤ 1000000 → Ev (fun k => term_At.l0 k (pre ++ q) ((pre ++ q).length : Int) (pre.length : Int) t.f0 t.f1) (atR (atT q t))
  | [], pre, t, hf, hl => by
    refine Ev.step (f := fun _ => some (t.f0, t.f1, true)) (fun k => by rw [term_At.l0, if_neg (by simp)]) ?_
    exact Ev.now _
  | i :: q, pre, t, hf, hl => by
    have hlt : pre.length < (pre ++ i :: q).length := by simp
    have hrd : rd (pre ++ i :: q) (pre.length : Int) = i := by
      rw [rdi_at _ _ hlt]
      simp
    have hps := parts_f t
    simp only [atT]
    by_cases hc : i < 0 ∨ ((partsT t).length : Int) ≤ i
    · rw [if_pos hc]
      refine Ev.step (f := fun _ => some (0, [], false)) (fun k => ?_) (Ev.now _)
      rw [term_At.l0, if_pos (by omega), if_pos (by omega), if_pos (by omega), hps, Option.bind_some, hrd]
      by_cases h1 : i < 0
      · rw [if_pos h1]
      · rw [if_neg h1, if_pos (by omega)]
    · rw [if_neg hc]
      have hfs : fit (rd_T30 (partsT t) i) := by
        obtain ⟨h1, hi, h2⟩ := parts_at hc
        rw [h2]
        have := (fit_parts hf).2
        refine this _ ?_
        unfold partsT
        rw [if_neg h1]
        exact List.getElem_mem hi
      have ih := At_spec q (pre ++ [i]) (rd_T30 (partsT t) i) hfs (by simpa using hl)
      refine Ev.step (f := fun k => term_At.l0 k (pre ++ i :: q) ((pre ++ i :: q).length : Int) ((pre.length + 1 : Nat) : Int) (rd_T30 (partsT t) i).f0 (rd_T30 (partsT t) i).f1) (fun k => ?_) ?_
      · rw [term_At.l0, if_pos (by omega), if_pos (by omega), if_pos (by omega), hps, Option.bind_some, hrd, if_neg (by omega), if_neg (by omega), if_pos (by omega), if_pos (by omega), wsucc pre.length 1000000 (by omega) (by omega)]
      · simpa using ih
end Go.Proofs.Ytpfddihcikiofaa.P
end

section
namespace Go.Proofs.Ytpfddihcikiofaa.P
open Go.RowKit Go.Proofs.YtpfddihcikiofaaW.PrintWords Go.Proofs.YtpfddihcikiofaaW.PrintLast Go.Proofs.YtpfddihcikiofaaW.PrintMore
attribute [local go_sem] max2_int min2_int max_two min_two max_three min_three max_four min_four
set_option linter.unusedVariables false
set_option linter.unusedSimpArgs false
def soriteslaw06_under.l0 : Nat → List Int → List Int → Int → Option (Bool)
  | 0, _, _, _ => none
  | k + 1, x0, x1, x5 => if x5 < (x1.length : Int) then (if 0 ≤ x5 then (if x5 < (x0.length : Int) then (if (rd x0 x5) = (rd x1 x5) then (soriteslaw06_under.l0 k x0 x1 (wrap64 (x5 + 1))) else (some false)) else (none)) else (none)) else (some true)
def soriteslaw06_under.f (k : Nat) (l0 : List Int) (l1 : List Int) : Option (Bool) := if (l0.length : Int) < (l1.length : Int) then (some false) else (soriteslaw06_under.l0 k l0 l1 0)
set_option maxHeartbeats 8000000 in
set_option maxRecDepth 100000 in
theorem soriteslaw06_under.calls (k : Nat) (A0 : Option Addr) (c0 : Nat) (l0 : List Int) (A1 : Option Addr) (c1 : Nat) (l1 : List Int) (r : Bool) (w : World) (hr0 : Kd.C (Kd.int .i64) w A0 l0.length l0) (hc0 : l0.length ≤ c0) (hr1 : Kd.C (Kd.int .i64) w A1 l1.length l1) (hc1 : l1.length ≤ c1) (h : soriteslaw06_under.f k l0 l1 = some r) :
    Calls Try.prog 39 #[.slice A0 l0.length c0, .slice A1 l1.length c1] w fun e w' => e = .returned (.bool r) ∧ Drawn0 w w' := by
  have HR0 := Aside0.mk hr0
  have HC0 := Aside0.mk hc0
  clear hr0 hc0
  have HR1 := Aside0.mk hr1
  have HC1 := Aside0.mk hc1
  clear hr1 hc1
  have H : (if (l0.length : Int) < (l1.length : Int) then (some false) else (soriteslaw06_under.l0 k l0 l1 0)) = some r := h
  clear h
  by_cases c3 : (l0.length : Int) < (l1.length : Int)
  · rw [if_pos c3] at H
    have c3b0 : decide ((l0.length : Int) < (l1.length : Int)) = true := decide_eq_true c3
    have c3b1 : decide (l0.length < l1.length) = true := decide_eq_true (Int.ofNat_lt.mp c3)
    clear c3
    obtain rfl := Option.some.inj H
    go_enter Try.func39, Try.ntmps39
    go_wp2
    repeat (go_quiet (fail); try go_wp2)
    go_ret
    exact ⟨by first | rfl | (simp; done) | (simp [*]; done), by repeat (first | exact Drawn0.refl _ | apply Drawn0.step)⟩
  · rw [if_neg c3] at H
    have c3b0 : decide ((l0.length : Int) < (l1.length : Int)) = false := decide_eq_false c3
    have c3b1 : decide (l0.length < l1.length) = false := decide_eq_false (fun h => c3 (Int.ofNat_lt.mpr h))
    clear c3
    have H' := Aside0.mk H
    clear H
    go_enter Try.func39, Try.ntmps39
    go_wp2
    repeat (go_quiet (fail); try go_wp2)
    go_loopg [5] k (fun kq v5 w' => ∃ (x5_1 : Int), v5 = .int .i64 x5_1 ∧ Aside0 (soriteslaw06_under.l0 kq l0 l1 x5_1 = some r) ∧ Aside0 (kq ≤ k) ∧ Drawn0 w w')
    case atStart => exact ⟨(0), (by first | rfl | (simp; done) | (simp [*]; done)), H', ⟨Nat.le_refl _⟩, by repeat (first | exact Drawn0.refl _ | apply Drawn0.step)⟩
    case round =>
      clear H'
      try clear c1
      try clear p2
      try clear c3
      try clear c3b0
      try clear c3b1
      obtain ⟨x5_1, rfl, HA, HK1, ⟨m1, rfl⟩⟩ := hrel
      cases gk with
      | zero => exact absurd HA.out (by simp [soriteslaw06_under.l0])
      | succ k1 =>
        have H := HA.out
        clear HA
        simp only [soriteslaw06_under.l0] at H
        by_cases c4 : x5_1 < (l1.length : Int)
        · rw [if_pos c4] at H
          have c4b0 : decide (x5_1 < (l1.length : Int)) = true := decide_eq_true c4
          clear c4
          by_cases c5 : 0 ≤ x5_1
          · rw [if_pos c5] at H
            have c5b0 : decide (0 ≤ x5_1) = true := decide_eq_true c5
            clear c5
            by_cases c6 : x5_1 < (l0.length : Int)
            · rw [if_pos c6] at H
              have c6b0 : decide (x5_1 < (l0.length : Int)) = true := decide_eq_true c6
              clear c6
              by_cases c7 : (rd l0 x5_1) = (rd l1 x5_1)
              · rw [if_pos c7] at H
                have c7b0 : ((rd l0 x5_1) == (rd l1 x5_1)) = true := beq_iff_eq.mpr c7
                have c7b1 : ((rd l0 x5_1) != (rd l1 x5_1)) = false := bne_eq_false_iff_eq.mpr c7
                clear c7
                have H' := Aside0.mk H
                clear H
                have p264 : 0 ≤ (x5_1 : Int) := of_decide_eq_true (by first | (with_reducible assumption) | assumption)
                have q264 : x5_1 < (l0.length : Int) := of_decide_eq_true (by first | (with_reducible assumption) | assumption)
                obtain ⟨ad264, e264, hx264_0⟩ := Kd.at_int HR0.out x5_1 p264 q264
                cases e264
                replace p264 := eq_true p264
                replace q264 := eq_true q264
                have p265 : 0 ≤ (x5_1 : Int) := of_decide_eq_true (by first | (with_reducible assumption) | assumption)
                have q265 : x5_1 < (l1.length : Int) := of_decide_eq_true (by first | (with_reducible assumption) | assumption)
                obtain ⟨ad265, e265, hx265_0⟩ := Kd.at_int HR1.out x5_1 p265 q265
                cases e265
                replace p265 := eq_true p265
                replace q265 := eq_true q265
                go_wp2
                repeat (go_quiet (fail); try go_wp2)
                go_roundg k1
                case measure => have := HK1.out; omega
                case rel => exact ⟨(wrap64 (x5_1 + 1)), (by first | rfl | (simp; done) | (simp [*]; done)), H', ⟨by have := HK1.out; omega⟩, by repeat (first | exact Drawn0.refl _ | apply Drawn0.step)⟩
              · rw [if_neg c7] at H
                have c7b0 : ((rd l0 x5_1) == (rd l1 x5_1)) = false := beq_eq_false_iff_ne.mpr c7
                have c7b1 : ((rd l0 x5_1) != (rd l1 x5_1)) = true := bne_iff_ne.mpr c7
                obtain rfl := Option.some.inj H
                have p264 : 0 ≤ (x5_1 : Int) := of_decide_eq_true (by first | (with_reducible assumption) | assumption)
                have q264 : x5_1 < (l0.length : Int) := of_decide_eq_true (by first | (with_reducible assumption) | assumption)
                obtain ⟨ad264, e264, hx264_0⟩ := Kd.at_int HR0.out x5_1 p264 q264
                cases e264
                replace p264 := eq_true p264
                replace q264 := eq_true q264
                have p265 : 0 ≤ (x5_1 : Int) := of_decide_eq_true (by first | (with_reducible assumption) | assumption)
                have q265 : x5_1 < (l1.length : Int) := of_decide_eq_true (by first | (with_reducible assumption) | assumption)
                obtain ⟨ad265, e265, hx265_0⟩ := Kd.at_int HR1.out x5_1 p265 q265
                cases e265
                replace p265 := eq_true p265
                replace q265 := eq_true q265
                go_wp2
                repeat (go_quiet (fail); try go_wp2)
                go_ret
                exact ⟨by first | rfl | (simp; done) | (simp [*]; done), by repeat (first | exact Drawn0.refl _ | apply Drawn0.step)⟩
            · rw [if_neg c6] at H
              exact absurd H (by simp)
          · rw [if_neg c5] at H
            exact absurd H (by simp)
        · rw [if_neg c4] at H
          have c4b0 : decide (x5_1 < (l1.length : Int)) = false := decide_eq_false c4
          clear c4
          obtain rfl := Option.some.inj H
          go_wp2
          repeat (go_quiet (fail); try go_wp2)
          go_ret
          exact ⟨by first | rfl | (simp; done) | (simp [*]; done), by repeat (first | exact Drawn0.refl _ | apply Drawn0.step)⟩
end Go.Proofs.Ytpfddihcikiofaa.P
end

section
namespace Go.Proofs.Ytpfddihcikiofaa.P
open Go.RowKit Go.Proofs.YtpfddihcikiofaaW.PrintWords Go.Proofs.YtpfddihcikiofaaW.PrintLast Go.Proofs.YtpfddihcikiofaaW.PrintMore
set_option linter.unusedVariables false
set_option linter.unusedSimpArgs false
theorem eqv_parts {t t' : S30} (h : cmpT t t' = 0) : t.f0 = t'.f0 ∧ (partsT t).length = (partsT t').length ∧ ∀ (j : Nat) (x y : S30), (partsT t)[j]? = some x → (partsT t')[j]? = some y → cmpT x y = 0 := by
  obtain ⟨f, l⟩ := t
  obtain ⟨g, m⟩ := t'
  obtain ⟨rfl, h2⟩ := cmp_zero h
  refine ⟨rfl, ?_⟩
  unfold partsT
  by_cases hf : f < 0
  · simp [hf]
  · obtain ⟨h3, h4⟩ := h2 hf
    simp only [hf, if_false]
    exact ⟨h3, (cmpTs_zero_iff l m h3).1 h4⟩
theorem eqv_rd {t t' : S30} (h : cmpT t t' = 0) {i : Int} (hc : ¬ (i < 0 ∨ ((partsT t).length : Int) ≤ i)) : cmpT (rd_T30 (partsT t) i) (rd_T30 (partsT t') i) = 0 := by
  obtain ⟨_, h2, h3⟩ := eqv_parts h
  have hi : i = (i.toNat : Int) := by omega
  have l1 : i.toNat < (partsT t).length := by omega
  have l2 : i.toNat < (partsT t').length := by omega
  rw [hi, rdC_at _ _ l1, rdC_at _ _ l2]
  exact h3 i.toNat _ _ (List.getElem?_eq_getElem l1) (List.getElem?_eq_getElem l2)
theorem at_congr : ∀ (q : List Int) (t t' : S30), cmpT t t' = 0 → ∀ s, atT q t = some s → ∃ s', atT q t' = some s' ∧ cmpT s s' = 0
  | [], t, t', h, s, hs => by simp only [atT, Option.some.injEq] at hs; subst hs; exact ⟨t', rfl, h⟩
  | i :: q, t, t', h, s, hs => by
    simp only [atT] at hs ⊢
    by_cases hc : i < 0 ∨ ((partsT t).length : Int) ≤ i
    · rw [if_pos hc] at hs; cases hs
    · rw [if_neg hc] at hs
      rw [if_neg (by rw [← (eqv_parts h).2.1]; exact hc)]
      exact at_congr q _ _ (eqv_rd h hc) s hs
theorem put_congr : ∀ (q : List Int) (t t' u : S30), cmpT t t' = 0 → ∀ z, put0 q t u = some z → ∃ z', put0 q t' u = some z' ∧ cmpT z z' = 0
  | [], t, t', u, h, z, hz => by simp only [put0, Option.some.injEq] at hz; subst hz; exact ⟨u, rfl, cmp_self u⟩
  | i :: q, t, t', u, h, z, hz => by
    simp only [put0] at hz ⊢
    by_cases hc : i < 0 ∨ ((partsT t).length : Int) ≤ i
    · rw [if_pos hc] at hz; cases hz
    · rw [if_neg hc] at hz
      obtain ⟨e1, e2, e3⟩ := eqv_parts h
      rw [if_neg (by rw [← e2]; exact hc)]
      rw [Option.map_eq_some_iff] at hz
      obtain ⟨x, hx, rfl⟩ := hz
      obtain ⟨x', hx', hxx⟩ := put_congr q _ _ u (eqv_rd h hc) x hx
      obtain ⟨hf, hi, _⟩ := parts_at hc
      have hf' : ¬ t'.f0 < 0 := by rw [← e1]; exact hf
      have p1 : partsT t = t.f1 := by unfold partsT; rw [if_neg hf]
      have p2 : partsT t' = t'.f1 := by unfold partsT; rw [if_neg hf']
      rw [p1, p2] at e2 e3
      refine ⟨⟨t'.f0, t'.f1.set i.toNat x'⟩, by rw [hx']; rfl, cmp_zero' e1 (fun _ => ⟨by simpa using e2, (cmpTs_zero_iff _ _ (by simpa using e2)).2 (fun j a b ha hb => ?_)⟩)⟩
      by_cases hj : j = i.toNat
      · subst hj
        rw [List.getElem?_set_self hi] at ha
        rw [List.getElem?_set_self (by omega)] at hb
        injection ha with ha
        injection hb with hb
        rw [← ha, ← hb]
        exact hxx
      · rw [List.getElem?_set_ne (fun e => hj e.symm)] at ha hb
        exact e3 j a b ha hb
theorem at_other : ∀ (q q' : List Int) (t u z : S30), put0 q t u = some z → ¬ q <+: q' → ¬ q' <+: q → atT q' z = atT q' t
  | [], q', t, u, z, h, h1, h2 => absurd (List.nil_prefix) h1
  | i :: q, [], t, u, z, h, h1, h2 => absurd (List.nil_prefix) h2
  | i :: q, j :: q', t, u, z, h, h1, h2 => by
    simp only [put0] at h
    by_cases hc : i < 0 ∨ ((partsT t).length : Int) ≤ i
    · rw [if_pos hc] at h; cases h
    · rw [if_neg hc] at h
      obtain ⟨hf, hi, hrd⟩ := parts_at hc
      rw [Option.map_eq_some_iff] at h
      obtain ⟨a, ha, rfl⟩ := h
      have hpl : partsT t = t.f1 := by unfold partsT; rw [if_neg hf]
      simp only [atT]
      rw [parts_set hf, hpl, List.length_set]
      by_cases hcj : j < 0 ∨ (t.f1.length : Int) ≤ j
      · rw [if_pos hcj, if_pos hcj]
      · rw [if_neg hcj, if_neg hcj]
        have hj2 : j = (j.toNat : Int) := by omega
        have hjl : j.toNat < t.f1.length := by omega
        by_cases hij : i = j
        · subst hij
          have hi2 : i = (i.toNat : Int) := by omega
          have hrd2 : rd_T30 (t.f1.set i.toNat a) i = a := by
            have := rdC_at (t.f1.set i.toNat a) i.toNat (by simpa using hi)
            rw [← hi2] at this
            rw [this]
            simp
          rw [hrd2]
          rw [hpl] at ha
          exact at_other q q' _ u a ha (fun h => h1 (List.cons_prefix_cons.2 ⟨rfl, h⟩)) (fun h => h2 (List.cons_prefix_cons.2 ⟨rfl, h⟩))
        · have hrd2 : rd_T30 (t.f1.set i.toNat a) j = rd_T30 t.f1 j := by
            have e1 := rdC_at (t.f1.set i.toNat a) j.toNat (by simpa using hjl)
            have e2 := rdC_at t.f1 j.toNat hjl
            rw [← hj2] at e1 e2
            rw [e1, e2]
            rw [List.getElem_set_ne (by omega)]
          rw [hrd2]
theorem puts_law {q : List Int} {t s u : S30} (hs : atT q t = some s) : ∃ z, putT q t u = some z ∧ (nodes z).length + (nodes s).length = (nodes t).length + (nodes u).length ∧ (fit t → fit u → (nodes t).length + (nodes u).length ≤ 1000000 → fit z) ∧
    (∃ g, atT q z = some g ∧ cmpT g u = 0) ∧ (∃ bk, putT q z s = some bk ∧ cmpT bk t = 0) ∧ ∀ q' s', ¬ q <+: q' → ¬ q' <+: q → atT q' t = some s' → ∃ s2, atT q' z = some s2 ∧ cmpT s' s2 = 0 := by
  obtain ⟨z0, hz0⟩ := put_some q t s u hs
  have hpe := put_eqv q t u
  rw [hz0] at hpe
  cases hz : putT q t u with
  | none => rw [hz] at hpe; exact hpe.elim
  | some z =>
    rw [hz] at hpe
    have hpe' := eqv_symm hpe
    have hlen := put_len q t s u z0 hs hz0
    have hl2 := cmp_len _ _ hpe
    refine ⟨z, rfl, by omega, fun ht hu hn => eqv_fit hpe' (put_fit hz0 (by omega) ht hu), ?_, ?_, fun q' s' h1 h2 h3 => ?_⟩
    · obtain ⟨g, hg, hgc⟩ := at_congr q z0 z hpe' u (at_put q t u z0 hz0)
      exact ⟨g, hg, eqv_symm hgc⟩
    · have h1 : put0 q z0 s = some t := by rw [put_put q t u z0 s hz0]; exact put_at q t s hs
      obtain ⟨b0, hb0, hbc⟩ := put_congr q z0 z s hpe' t h1
      have h2 := put_eqv q z s
      rw [hb0] at h2
      cases hb : putT q z s with
      | none => rw [hb] at h2; exact h2.elim
      | some bk =>
        rw [hb] at h2
        exact ⟨bk, rfl, eqv_trans h2 (eqv_symm hbc)⟩
    · have h4 := at_other q q' t u z0 hz0 h1 h2
      exact at_congr q' z0 z hpe' s' (h4.trans h3)
theorem Under_spec (p q : List Int) (hp : p.length ≤ 1000000) : Ev (fun k => soriteslaw06_under.f k p q) (decide (q <+: p)) := by
  unfold soriteslaw06_under.f
  by_cases hl : p.length < q.length
  · rw [decide_eq_false (fun h => by have := h.length_le; omega)]
    simp only [if_pos (show (p.length : Int) < q.length by omega)]
    exact Ev.now _
  · simp only [if_neg (show ¬ (p.length : Int) < q.length by omega)]
    have key : ∀ n i, q.length - i = n → i ≤ q.length → (p.take i = q.take i) → Ev (fun k => soriteslaw06_under.l0 k p q (i : Int)) (decide (q <+: p)) := by
      intro n
      induction n with
      | zero =>
        intro i hi hle heq
        refine Ev.step (f := fun _ => some true) (fun k => by rw [soriteslaw06_under.l0, if_neg (by omega)]) ?_
        have : q <+: p := by
          rw [List.prefix_iff_eq_take]
          have hi2 : i = q.length := by omega
          rw [hi2, List.take_length] at heq
          exact heq.symm
        rw [decide_eq_true this]; exact Ev.now _
      | succ n ihn =>
        intro i hi hle heq
        have hlt : i < q.length := by omega
        have hlp : i < p.length := by omega
        by_cases he : p[i] = q[i]
        · refine Ev.step (f := fun k => soriteslaw06_under.l0 k p q ((i + 1 : Nat) : Int)) (fun k => ?_) (ihn (i + 1) (by omega) (by omega) (by rw [List.take_succ_eq_append_getElem hlp, List.take_succ_eq_append_getElem hlt, heq, he]))
          rw [soriteslaw06_under.l0, if_pos (by omega), rdi_at p i hlp, rdi_at q i hlt, wsucc i q.length hlt (by omega)]
          simp [he]
          omega
        · refine Ev.step (f := fun _ => some false) (fun k => ?_) ?_
          · rw [soriteslaw06_under.l0, if_pos (by omega), rdi_at p i hlp, rdi_at q i hlt]
            simp [he]
            omega
          · have : ¬ q <+: p := fun h => by
              rw [List.prefix_iff_eq_take] at h
              apply he
              have h9 : q[i] = (p.take q.length)[i]'(by rw [List.length_take]; omega) := by congr 1
              rw [h9, List.getElem_take]
            rw [decide_eq_false this]; exact Ev.now _
    have := key q.length 0 rfl (by omega) (by simp)
    simpa using this
end Go.Proofs.Ytpfddihcikiofaa.P
end

section
namespace Go.Proofs.Ytpfddihcikiofaa.P
open Go.RowKit Go.Proofs.YtpfddihcikiofaaW.PrintWords Go.Proofs.YtpfddihcikiofaaW.PrintLast Go.Proofs.YtpfddihcikiofaaW.PrintMore
set_option linter.unusedVariables false
set_option linter.unusedSimpArgs false
set_option maxHeartbeats 4000000 in
set_option maxRecDepth 100000 in
theorem TermPuts_r12 {id : Nat} {a : Act} {w : World} {Q : Exit → Act → World → Prop} {ga gb gz gs gg gk nz nx ns ny : Nat} {xf xl yf yl zf zl sf sl gf gl bf bl : Value}
    (hr : regionOk #[{ dst := some 71, op := Op.move (Operand.tmp 14), type := 4, pos := "law.go:141", after := #[], guard := none }, { dst := some 72, op := Op.unOp UnOp.not 4 (Operand.tmp 71), type := 4, pos := "law.go:141", after := #[{ on := 0, ground := Ground.data }], guard := none }, { dst := some 73, op := Op.move (Operand.tmp 72), type := 4, pos := "law.go:141", after := #[{ on := 1, ground := Ground.data }], guard := none }, { dst := some 74, op := Op.move (Operand.tmp 16), type := 4, pos := "law.go:141", after := #[{ on := 2, ground := Ground.guard }], guard := some (2, false) }, { dst := some 75, op := Op.unOp UnOp.not 4 (Operand.tmp 74), type := 4, pos := "law.go:141", after := #[{ on := 3, ground := Ground.data }, { on := 2, ground := Ground.guard }], guard := some (2, false) }, { dst := some 76, op := Op.pick (Operand.tmp 73) (Operand.const (Value.bool true)) (Operand.tmp 75), type := 4, pos := "law.go:141", after := #[{ on := 2, ground := Ground.data }, { on := 4, ground := Ground.data }], guard := none }, { dst := some 77, op := Op.move (Operand.tmp 76), type := 4, pos := "law.go:141", after := #[{ on := 5, ground := Ground.data }, { on := 2, ground := Ground.chain }], guard := none }, { dst := some 78, op := Op.move (Operand.tmp 18), type := 4, pos := "law.go:141", after := #[{ on := 6, ground := Ground.guard }], guard := some (6, false) }, { dst := some 79, op := Op.unOp UnOp.not 4 (Operand.tmp 78), type := 4, pos := "law.go:141", after := #[{ on := 7, ground := Ground.data }, { on := 6, ground := Ground.guard }], guard := some (6, false) }, { dst := some 80, op := Op.pick (Operand.tmp 77) (Operand.const (Value.bool true)) (Operand.tmp 79), type := 4, pos := "law.go:141", after := #[{ on := 6, ground := Ground.data }, { on := 8, ground := Ground.data }], guard := none }, { dst := some 81, op := Op.move (Operand.tmp 80), type := 4, pos := "law.go:141", after := #[{ on := 9, ground := Ground.data }, { on := 6, ground := Ground.chain }], guard := none }, { dst := some 82, op := Op.load 30 (Operand.tmp 15), type := 30, pos := "law.go:141", after := #[{ on := 10, ground := Ground.guard }], guard := some (10, false) }, { dst := some 83, op := Op.load 30 (Operand.tmp 8), type := 30, pos := "law.go:141", after := #[{ on := 10, ground := Ground.guard }], guard := some (10, false) }, { dst := some 84, op := Op.call { callee := Callee.value (Operand.func 37), args := #[Operand.tmp 82, Operand.tmp 83], argTypes := #[30, 30] }, type := 4, pos := "law.go:141", after := #[{ on := 11, ground := Ground.data }, { on := 12, ground := Ground.data }, { on := 10, ground := Ground.chain }, { on := 10, ground := Ground.guard }], guard := some (10, false) }, { dst := some 85, op := Op.unOp UnOp.not 4 (Operand.tmp 84), type := 4, pos := "law.go:141", after := #[{ on := 13, ground := Ground.data }, { on := 10, ground := Ground.guard }], guard := some (10, false) }, { dst := some 86, op := Op.pick (Operand.tmp 81) (Operand.const (Value.bool true)) (Operand.tmp 85), type := 4, pos := "law.go:141", after := #[{ on := 10, ground := Ground.data }, { on := 14, ground := Ground.data }], guard := none }, { dst := some 87, op := Op.move (Operand.tmp 86), type := 4, pos := "law.go:141", after := #[{ on := 15, ground := Ground.data }, { on := 13, ground := Ground.chain }], guard := none }, { dst := some 88, op := Op.load 30 (Operand.tmp 17), type := 30, pos := "law.go:141", after := #[{ on := 16, ground := Ground.guard }], guard := some (16, false) }, { dst := some 89, op := Op.load 30 (Operand.tmp 7), type := 30, pos := "law.go:141", after := #[{ on := 16, ground := Ground.guard }], guard := some (16, false) }, { dst := some 90, op := Op.call { callee := Callee.value (Operand.func 37), args := #[Operand.tmp 88, Operand.tmp 89], argTypes := #[30, 30] }, type := 4, pos := "law.go:141", after := #[{ on := 17, ground := Ground.data }, { on := 18, ground := Ground.data }, { on := 16, ground := Ground.chain }, { on := 16, ground := Ground.guard }], guard := some (16, false) }, { dst := some 91, op := Op.unOp UnOp.not 4 (Operand.tmp 90), type := 4, pos := "law.go:141", after := #[{ on := 19, ground := Ground.data }, { on := 16, ground := Ground.guard }], guard := some (16, false) }, { dst := some 92, op := Op.pick (Operand.tmp 87) (Operand.const (Value.bool true)) (Operand.tmp 91), type := 4, pos := "law.go:141", after := #[{ on := 16, ground := Ground.data }, { on := 20, ground := Ground.data }], guard := none }, { dst := some 93, op := Op.move (Operand.tmp 92), type := 4, pos := "law.go:141", after := #[{ on := 21, ground := Ground.data }, { on := 19, ground := Ground.chain }], guard := none }, { dst := some 94, op := Op.load 30 (Operand.tmp 13), type := 30, pos := "law.go:141", after := #[{ on := 22, ground := Ground.guard }], guard := some (22, false) }, { dst := some 95, op := Op.call { callee := Callee.value (Operand.func 34), args := #[Operand.tmp 94], argTypes := #[30] }, type := 3, pos := "law.go:141", after := #[{ on := 23, ground := Ground.data }, { on := 22, ground := Ground.chain }, { on := 22, ground := Ground.guard }], guard := some (22, false) }, { dst := some 96, op := Op.load 30 (Operand.tmp 7), type := 30, pos := "law.go:141", after := #[{ on := 22, ground := Ground.guard }], guard := some (22, false) }, { dst := some 97, op := Op.call { callee := Callee.value (Operand.func 34), args := #[Operand.tmp 96], argTypes := #[30] }, type := 3, pos := "law.go:141", after := #[{ on := 25, ground := Ground.data }, { on := 24, ground := Ground.chain }, { on := 22, ground := Ground.guard }], guard := some (22, false) }, { dst := some 98, op := Op.load 30 (Operand.tmp 11), type := 30, pos := "law.go:141", after := #[{ on := 22, ground := Ground.guard }], guard := some (22, false) }, { dst := some 99, op := Op.call { callee := Callee.value (Operand.func 34), args := #[Operand.tmp 98], argTypes := #[30] }, type := 3, pos := "law.go:141", after := #[{ on := 27, ground := Ground.data }, { on := 26, ground := Ground.chain }, { on := 22, ground := Ground.guard }], guard := some (22, false) }, { dst := some 100, op := Op.binOp BinOp.sub 3 (Operand.tmp 97) (Operand.tmp 99) 3, type := 3, pos := "law.go:141", after := #[{ on := 26, ground := Ground.data }, { on := 28, ground := Ground.data }, { on := 22, ground := Ground.guard }], guard := some (22, false) }, { dst := some 101, op := Op.load 30 (Operand.tmp 8), type := 30, pos := "law.go:141", after := #[{ on := 22, ground := Ground.guard }], guard := some (22, false) }, { dst := some 102, op := Op.call { callee := Callee.value (Operand.func 34), args := #[Operand.tmp 101], argTypes := #[30] }, type := 3, pos := "law.go:141", after := #[{ on := 30, ground := Ground.data }, { on := 28, ground := Ground.chain }, { on := 22, ground := Ground.guard }], guard := some (22, false) }, { dst := some 103, op := Op.binOp BinOp.add 3 (Operand.tmp 100) (Operand.tmp 102) 3, type := 3, pos := "law.go:141", after := #[{ on := 29, ground := Ground.data }, { on := 31, ground := Ground.data }, { on := 22, ground := Ground.guard }], guard := some (22, false) }, { dst := some 104, op := Op.binOp BinOp.neq 3 (Operand.tmp 95) (Operand.tmp 103) 3, type := 4, pos := "law.go:141", after := #[{ on := 24, ground := Ground.data }, { on := 32, ground := Ground.data }, { on := 22, ground := Ground.guard }], guard := some (22, false) }, { dst := some 105, op := Op.pick (Operand.tmp 93) (Operand.const (Value.bool true)) (Operand.tmp 104), type := 4, pos := "law.go:141", after := #[{ on := 22, ground := Ground.data }, { on := 33, ground := Ground.data }], guard := none }] a.tmps.size = true)
    (hT14 : a.tmps.getD 14 undef = .bool true)
    (hT16 : a.tmps.getD 16 undef = .bool true)
    (hT18 : a.tmps.getD 18 undef = .bool true)
    (hT7 : a.tmps.getD 7 undef = .pointer (some ⟨ga, 0, none⟩)) (hX7 : w.heap[ga]? = some (.cells #[xf, xl] 30 (0, 0)))
    (hT8 : a.tmps.getD 8 undef = .pointer (some ⟨gb, 0, none⟩)) (hX8 : w.heap[gb]? = some (.cells #[yf, yl] 30 (0, 0)))
    (hT13 : a.tmps.getD 13 undef = .pointer (some ⟨gz, 0, none⟩)) (hX13 : w.heap[gz]? = some (.cells #[zf, zl] 30 (0, 0)))
    (hT11 : a.tmps.getD 11 undef = .pointer (some ⟨gs, 0, none⟩)) (hX11 : w.heap[gs]? = some (.cells #[sf, sl] 30 (0, 0)))
    (hT15 : a.tmps.getD 15 undef = .pointer (some ⟨gg, 0, none⟩)) (hX15 : w.heap[gg]? = some (.cells #[gf, gl] 30 (0, 0)))
    (hT17 : a.tmps.getD 17 undef = .pointer (some ⟨gk, 0, none⟩)) (hX17 : w.heap[gk]? = some (.cells #[bf, bl] 30 (0, 0)))
    (hF13 : ∀ w1, Below w.heap.size w w1 → Calls Try.prog 37 #[.agg #[gf, gl], .agg #[yf, yl]] w1 fun e w2 => e = .returned (.bool true) ∧ Below w1.heap.size w1 w2)
    (hF19 : ∀ w1, Below w.heap.size w w1 → Calls Try.prog 37 #[.agg #[bf, bl], .agg #[xf, xl]] w1 fun e w2 => e = .returned (.bool true) ∧ Below w1.heap.size w1 w2)
    (hF24 : ∀ w1, Below w.heap.size w w1 → Calls Try.prog 34 #[.agg #[zf, zl]] w1 fun e w2 => e = .returned (.int .i64 (nz : Int)) ∧ Below w1.heap.size w1 w2)
    (hF26 : ∀ w1, Below w.heap.size w w1 → Calls Try.prog 34 #[.agg #[xf, xl]] w1 fun e w2 => e = .returned (.int .i64 (nx : Int)) ∧ Below w1.heap.size w1 w2)
    (hF28 : ∀ w1, Below w.heap.size w w1 → Calls Try.prog 34 #[.agg #[sf, sl]] w1 fun e w2 => e = .returned (.int .i64 (ns : Int)) ∧ Below w1.heap.size w1 w2)
    (hF31 : ∀ w1, Below w.heap.size w w1 → Calls Try.prog 34 #[.agg #[yf, yl]] w1 fun e w2 => e = .returned (.int .i64 (ny : Int)) ∧ Below w1.heap.size w1 w2)
    (hn : nz + ns = nx + ny) (hb1 : nx ≤ 1000000) (hb2 : ny ≤ 1000000)
    (hK : ∀ v w', Below w.heap.size w w' → v 34 = .bool false → Q .normal { tmps := layL [some 71, some 72, some 73, some 74, some 75, some 76, some 77, some 78, some 79, some 80, some 81, some 82, some 83, some 84, some 85, some 86, some 87, some 88, some 89, some 90, some 91, some 92, some 93, some 94, some 95, some 96, some 97, some 98, some 99, some 100, some 101, some 102, some 103, some 104, some 105] 0 v a.tmps, defers := a.defers } w') :
    (Code.region id #[{ dst := some 71, op := Op.move (Operand.tmp 14), type := 4, pos := "law.go:141", after := #[], guard := none }, { dst := some 72, op := Op.unOp UnOp.not 4 (Operand.tmp 71), type := 4, pos := "law.go:141", after := #[{ on := 0, ground := Ground.data }], guard := none }, { dst := some 73, op := Op.move (Operand.tmp 72), type := 4, pos := "law.go:141", after := #[{ on := 1, ground := Ground.data }], guard := none }, { dst := some 74, op := Op.move (Operand.tmp 16), type := 4, pos := "law.go:141", after := #[{ on := 2, ground := Ground.guard }], guard := some (2, false) }, { dst := some 75, op := Op.unOp UnOp.not 4 (Operand.tmp 74), type := 4, pos := "law.go:141", after := #[{ on := 3, ground := Ground.data }, { on := 2, ground := Ground.guard }], guard := some (2, false) }, { dst := some 76, op := Op.pick (Operand.tmp 73) (Operand.const (Value.bool true)) (Operand.tmp 75), type := 4, pos := "law.go:141", after := #[{ on := 2, ground := Ground.data }, { on := 4, ground := Ground.data }], guard := none }, { dst := some 77, op := Op.move (Operand.tmp 76), type := 4, pos := "law.go:141", after := #[{ on := 5, ground := Ground.data }, { on := 2, ground := Ground.chain }], guard := none }, { dst := some 78, op := Op.move (Operand.tmp 18), type := 4, pos := "law.go:141", after := #[{ on := 6, ground := Ground.guard }], guard := some (6, false) }, { dst := some 79, op := Op.unOp UnOp.not 4 (Operand.tmp 78), type := 4, pos := "law.go:141", after := #[{ on := 7, ground := Ground.data }, { on := 6, ground := Ground.guard }], guard := some (6, false) }, { dst := some 80, op := Op.pick (Operand.tmp 77) (Operand.const (Value.bool true)) (Operand.tmp 79), type := 4, pos := "law.go:141", after := #[{ on := 6, ground := Ground.data }, { on := 8, ground := Ground.data }], guard := none }, { dst := some 81, op := Op.move (Operand.tmp 80), type := 4, pos := "law.go:141", after := #[{ on := 9, ground := Ground.data }, { on := 6, ground := Ground.chain }], guard := none }, { dst := some 82, op := Op.load 30 (Operand.tmp 15), type := 30, pos := "law.go:141", after := #[{ on := 10, ground := Ground.guard }], guard := some (10, false) }, { dst := some 83, op := Op.load 30 (Operand.tmp 8), type := 30, pos := "law.go:141", after := #[{ on := 10, ground := Ground.guard }], guard := some (10, false) }, { dst := some 84, op := Op.call { callee := Callee.value (Operand.func 37), args := #[Operand.tmp 82, Operand.tmp 83], argTypes := #[30, 30] }, type := 4, pos := "law.go:141", after := #[{ on := 11, ground := Ground.data }, { on := 12, ground := Ground.data }, { on := 10, ground := Ground.chain }, { on := 10, ground := Ground.guard }], guard := some (10, false) }, { dst := some 85, op := Op.unOp UnOp.not 4 (Operand.tmp 84), type := 4, pos := "law.go:141", after := #[{ on := 13, ground := Ground.data }, { on := 10, ground := Ground.guard }], guard := some (10, false) }, { dst := some 86, op := Op.pick (Operand.tmp 81) (Operand.const (Value.bool true)) (Operand.tmp 85), type := 4, pos := "law.go:141", after := #[{ on := 10, ground := Ground.data }, { on := 14, ground := Ground.data }], guard := none }, { dst := some 87, op := Op.move (Operand.tmp 86), type := 4, pos := "law.go:141", after := #[{ on := 15, ground := Ground.data }, { on := 13, ground := Ground.chain }], guard := none }, { dst := some 88, op := Op.load 30 (Operand.tmp 17), type := 30, pos := "law.go:141", after := #[{ on := 16, ground := Ground.guard }], guard := some (16, false) }, { dst := some 89, op := Op.load 30 (Operand.tmp 7), type := 30, pos := "law.go:141", after := #[{ on := 16, ground := Ground.guard }], guard := some (16, false) }, { dst := some 90, op := Op.call { callee := Callee.value (Operand.func 37), args := #[Operand.tmp 88, Operand.tmp 89], argTypes := #[30, 30] }, type := 4, pos := "law.go:141", after := #[{ on := 17, ground := Ground.data }, { on := 18, ground := Ground.data }, { on := 16, ground := Ground.chain }, { on := 16, ground := Ground.guard }], guard := some (16, false) }, { dst := some 91, op := Op.unOp UnOp.not 4 (Operand.tmp 90), type := 4, pos := "law.go:141", after := #[{ on := 19, ground := Ground.data }, { on := 16, ground := Ground.guard }], guard := some (16, false) }, { dst := some 92, op := Op.pick (Operand.tmp 87) (Operand.const (Value.bool true)) (Operand.tmp 91), type := 4, pos := "law.go:141", after := #[{ on := 16, ground := Ground.data }, { on := 20, ground := Ground.data }], guard := none }, { dst := some 93, op := Op.move (Operand.tmp 92), type := 4, pos := "law.go:141", after := #[{ on := 21, ground := Ground.data }, { on := 19, ground := Ground.chain }], guard := none }, { dst := some 94, op := Op.load 30 (Operand.tmp 13), type := 30, pos := "law.go:141", after := #[{ on := 22, ground := Ground.guard }], guard := some (22, false) }, { dst := some 95, op := Op.call { callee := Callee.value (Operand.func 34), args := #[Operand.tmp 94], argTypes := #[30] }, type := 3, pos := "law.go:141", after := #[{ on := 23, ground := Ground.data }, { on := 22, ground := Ground.chain }, { on := 22, ground := Ground.guard }], guard := some (22, false) }, { dst := some 96, op := Op.load 30 (Operand.tmp 7), type := 30, pos := "law.go:141", after := #[{ on := 22, ground := Ground.guard }], guard := some (22, false) }, { dst := some 97, op := Op.call { callee := Callee.value (Operand.func 34), args := #[Operand.tmp 96], argTypes := #[30] }, type := 3, pos := "law.go:141", after := #[{ on := 25, ground := Ground.data }, { on := 24, ground := Ground.chain }, { on := 22, ground := Ground.guard }], guard := some (22, false) }, { dst := some 98, op := Op.load 30 (Operand.tmp 11), type := 30, pos := "law.go:141", after := #[{ on := 22, ground := Ground.guard }], guard := some (22, false) }, { dst := some 99, op := Op.call { callee := Callee.value (Operand.func 34), args := #[Operand.tmp 98], argTypes := #[30] }, type := 3, pos := "law.go:141", after := #[{ on := 27, ground := Ground.data }, { on := 26, ground := Ground.chain }, { on := 22, ground := Ground.guard }], guard := some (22, false) }, { dst := some 100, op := Op.binOp BinOp.sub 3 (Operand.tmp 97) (Operand.tmp 99) 3, type := 3, pos := "law.go:141", after := #[{ on := 26, ground := Ground.data }, { on := 28, ground := Ground.data }, { on := 22, ground := Ground.guard }], guard := some (22, false) }, { dst := some 101, op := Op.load 30 (Operand.tmp 8), type := 30, pos := "law.go:141", after := #[{ on := 22, ground := Ground.guard }], guard := some (22, false) }, { dst := some 102, op := Op.call { callee := Callee.value (Operand.func 34), args := #[Operand.tmp 101], argTypes := #[30] }, type := 3, pos := "law.go:141", after := #[{ on := 30, ground := Ground.data }, { on := 28, ground := Ground.chain }, { on := 22, ground := Ground.guard }], guard := some (22, false) }, { dst := some 103, op := Op.binOp BinOp.add 3 (Operand.tmp 100) (Operand.tmp 102) 3, type := 3, pos := "law.go:141", after := #[{ on := 29, ground := Ground.data }, { on := 31, ground := Ground.data }, { on := 22, ground := Ground.guard }], guard := some (22, false) }, { dst := some 104, op := Op.binOp BinOp.neq 3 (Operand.tmp 95) (Operand.tmp 103) 3, type := 4, pos := "law.go:141", after := #[{ on := 24, ground := Ground.data }, { on := 32, ground := Ground.data }, { on := 22, ground := Ground.guard }], guard := some (22, false) }, { dst := some 105, op := Op.pick (Operand.tmp 93) (Operand.const (Value.bool true)) (Operand.tmp 104), type := 4, pos := "law.go:141", after := #[{ on := 22, ground := Ground.data }, { on := 33, ground := Ground.data }], guard := none }] true).wp Try.prog Q a w := by
  have hmx : Try.prog.follows .mixedOrders = true := by kernel_rfl
  refine region_detR 35 hmx hr (by kernel_rfl) ?_
  refine DetR.is (o := { dst := some 71, op := Op.move (Operand.tmp 14), type := 4, pos := "law.go:141", after := #[], guard := none }) (u := ?ux1) rfl (by decide) (fun T w' hb hd hB K hK => ?sx1) ?rx1
  case sx1 =>
    have e14 := (hB 14 (by kernel_rfl)).trans hT14
    rw [if_pos (wanted_none _ rfl)]
    clear hd hB
    go_simp
    exact hK _ (Below.refl _ _)
  refine DetR.is (o := { dst := some 72, op := Op.unOp UnOp.not 4 (Operand.tmp 71), type := 4, pos := "law.go:141", after := #[{ on := 0, ground := Ground.data }], guard := none }) (u := .bool false) rfl (by decide) (fun T w' hb hd hB K hK => ?sx2) ?rx2
  case sx2 =>
    have e71 := hd 0 71 _ (by decide) (by kernel_rfl) rfl rfl
    replace e71 : T.getD 71 undef = _ := e71
    rw [if_pos (wanted_none _ rfl)]
    clear hd hB
    go_simp
    exact hK _ (Below.refl _ _)
  refine DetR.is (o := { dst := some 73, op := Op.move (Operand.tmp 72), type := 4, pos := "law.go:141", after := #[{ on := 1, ground := Ground.data }], guard := none }) (u := .bool false) rfl (by decide) (fun T w' hb hd hB K hK => ?sx3) ?rx3
  case sx3 =>
    have e72 := hd 1 72 _ (by decide) (by kernel_rfl) rfl rfl
    replace e72 : T.getD 72 undef = _ := e72
    rw [if_pos (wanted_none _ rfl)]
    clear hd hB
    go_simp
    exact hK _ (Below.refl _ _)
  refine DetR.is (o := { dst := some 74, op := Op.move (Operand.tmp 16), type := 4, pos := "law.go:141", after := #[{ on := 2, ground := Ground.guard }], guard := some (2, false) }) (u := ?ux4) rfl (by decide) (fun T w' hb hd hB K hK => ?sx4) ?rx4
  case sx4 =>
    have e16 := (hB 16 (by kernel_rfl)).trans hT16
    have eg := hd 2 73 _ (by decide) (by kernel_rfl) rfl rfl
    replace eg : T.getD 73 undef = .bool false := eg
    rw [if_pos (wanted_yes 2 73 false rfl rfl eg)]
    clear eg
    clear hd hB
    go_simp
    exact hK _ (Below.refl _ _)
  refine DetR.is (o := { dst := some 75, op := Op.unOp UnOp.not 4 (Operand.tmp 74), type := 4, pos := "law.go:141", after := #[{ on := 3, ground := Ground.data }, { on := 2, ground := Ground.guard }], guard := some (2, false) }) (u := .bool false) rfl (by decide) (fun T w' hb hd hB K hK => ?sx5) ?rx5
  case sx5 =>
    have e74 := hd 3 74 _ (by decide) (by kernel_rfl) rfl rfl
    replace e74 : T.getD 74 undef = _ := e74
    have eg := hd 2 73 _ (by decide) (by kernel_rfl) rfl rfl
    replace eg : T.getD 73 undef = .bool false := eg
    rw [if_pos (wanted_yes 2 73 false rfl rfl eg)]
    clear eg
    clear hd hB
    go_simp
    exact hK _ (Below.refl _ _)
  refine DetR.is (o := { dst := some 76, op := Op.pick (Operand.tmp 73) (Operand.const (Value.bool true)) (Operand.tmp 75), type := 4, pos := "law.go:141", after := #[{ on := 2, ground := Ground.data }, { on := 4, ground := Ground.data }], guard := none }) (u := .bool false) rfl (by decide) (fun T w' hb hd hB K hK => ?sx6) ?rx6
  case sx6 =>
    have e73 := hd 2 73 _ (by decide) (by kernel_rfl) rfl rfl
    replace e73 : T.getD 73 undef = _ := e73
    have e75 := hd 4 75 _ (by decide) (by kernel_rfl) rfl rfl
    replace e75 : T.getD 75 undef = _ := e75
    rw [if_pos (wanted_none _ rfl)]
    clear hd hB
    go_simp
    exact hK _ (Below.refl _ _)
  refine DetR.is (o := { dst := some 77, op := Op.move (Operand.tmp 76), type := 4, pos := "law.go:141", after := #[{ on := 5, ground := Ground.data }, { on := 2, ground := Ground.chain }], guard := none }) (u := .bool false) rfl (by decide) (fun T w' hb hd hB K hK => ?sx7) ?rx7
  case sx7 =>
    have e76 := hd 5 76 _ (by decide) (by kernel_rfl) rfl rfl
    replace e76 : T.getD 76 undef = _ := e76
    rw [if_pos (wanted_none _ rfl)]
    clear hd hB
    go_simp
    exact hK _ (Below.refl _ _)
  refine DetR.is (o := { dst := some 78, op := Op.move (Operand.tmp 18), type := 4, pos := "law.go:141", after := #[{ on := 6, ground := Ground.guard }], guard := some (6, false) }) (u := ?ux8) rfl (by decide) (fun T w' hb hd hB K hK => ?sx8) ?rx8
  case sx8 =>
    have e18 := (hB 18 (by kernel_rfl)).trans hT18
    have eg := hd 6 77 _ (by decide) (by kernel_rfl) rfl rfl
    replace eg : T.getD 77 undef = .bool false := eg
    rw [if_pos (wanted_yes 6 77 false rfl rfl eg)]
    clear eg
    clear hd hB
    go_simp
    exact hK _ (Below.refl _ _)
  refine DetR.is (o := { dst := some 79, op := Op.unOp UnOp.not 4 (Operand.tmp 78), type := 4, pos := "law.go:141", after := #[{ on := 7, ground := Ground.data }, { on := 6, ground := Ground.guard }], guard := some (6, false) }) (u := .bool false) rfl (by decide) (fun T w' hb hd hB K hK => ?sx9) ?rx9
  case sx9 =>
    have e78 := hd 7 78 _ (by decide) (by kernel_rfl) rfl rfl
    replace e78 : T.getD 78 undef = _ := e78
    have eg := hd 6 77 _ (by decide) (by kernel_rfl) rfl rfl
    replace eg : T.getD 77 undef = .bool false := eg
    rw [if_pos (wanted_yes 6 77 false rfl rfl eg)]
    clear eg
    clear hd hB
    go_simp
    exact hK _ (Below.refl _ _)
  refine DetR.is (o := { dst := some 80, op := Op.pick (Operand.tmp 77) (Operand.const (Value.bool true)) (Operand.tmp 79), type := 4, pos := "law.go:141", after := #[{ on := 6, ground := Ground.data }, { on := 8, ground := Ground.data }], guard := none }) (u := .bool false) rfl (by decide) (fun T w' hb hd hB K hK => ?sx10) ?rx10
  case sx10 =>
    have e77 := hd 6 77 _ (by decide) (by kernel_rfl) rfl rfl
    replace e77 : T.getD 77 undef = _ := e77
    have e79 := hd 8 79 _ (by decide) (by kernel_rfl) rfl rfl
    replace e79 : T.getD 79 undef = _ := e79
    rw [if_pos (wanted_none _ rfl)]
    clear hd hB
    go_simp
    exact hK _ (Below.refl _ _)
  refine DetR.is (o := { dst := some 81, op := Op.move (Operand.tmp 80), type := 4, pos := "law.go:141", after := #[{ on := 9, ground := Ground.data }, { on := 6, ground := Ground.chain }], guard := none }) (u := .bool false) rfl (by decide) (fun T w' hb hd hB K hK => ?sx11) ?rx11
  case sx11 =>
    have e80 := hd 9 80 _ (by decide) (by kernel_rfl) rfl rfl
    replace e80 : T.getD 80 undef = _ := e80
    rw [if_pos (wanted_none _ rfl)]
    clear hd hB
    go_simp
    exact hK _ (Below.refl _ _)
  refine DetR.is (o := { dst := some 82, op := Op.load 30 (Operand.tmp 15), type := 30, pos := "law.go:141", after := #[{ on := 10, ground := Ground.guard }], guard := some (10, false) }) (u := ?ux12) rfl (by decide) (fun T w' hb hd hB K hK => ?sx12) ?rx12
  case sx12 =>
    have e15 := (hB 15 (by kernel_rfl)).trans hT15
    have q15_0 : w'.cell? ⟨gg, 0, none⟩ = some (gf) := (blk_cell (blk_below hX15 hb) 0).trans rfl
    have q15_1 : w'.cell? ⟨gg, 1, none⟩ = some (gl) := (blk_cell (blk_below hX15 hb) 1).trans rfl
    have eg := hd 10 81 _ (by decide) (by kernel_rfl) rfl rfl
    replace eg : T.getD 81 undef = .bool false := eg
    rw [if_pos (wanted_yes 10 81 false rfl rfl eg)]
    clear eg
    clear hd hB
    go_simp
    exact hK _ (Below.refl _ _)
  refine DetR.is (o := { dst := some 83, op := Op.load 30 (Operand.tmp 8), type := 30, pos := "law.go:141", after := #[{ on := 10, ground := Ground.guard }], guard := some (10, false) }) (u := ?ux13) rfl (by decide) (fun T w' hb hd hB K hK => ?sx13) ?rx13
  case sx13 =>
    have e8 := (hB 8 (by kernel_rfl)).trans hT8
    have q8_0 : w'.cell? ⟨gb, 0, none⟩ = some (yf) := (blk_cell (blk_below hX8 hb) 0).trans rfl
    have q8_1 : w'.cell? ⟨gb, 1, none⟩ = some (yl) := (blk_cell (blk_below hX8 hb) 1).trans rfl
    have eg := hd 10 81 _ (by decide) (by kernel_rfl) rfl rfl
    replace eg : T.getD 81 undef = .bool false := eg
    rw [if_pos (wanted_yes 10 81 false rfl rfl eg)]
    clear eg
    clear hd hB
    go_simp
    exact hK _ (Below.refl _ _)
  refine DetR.is (o := { dst := some 84, op := Op.call { callee := Callee.value (Operand.func 37), args := #[Operand.tmp 82, Operand.tmp 83], argTypes := #[30, 30] }, type := 4, pos := "law.go:141", after := #[{ on := 11, ground := Ground.data }, { on := 12, ground := Ground.data }, { on := 10, ground := Ground.chain }, { on := 10, ground := Ground.guard }], guard := some (10, false) }) (u := ?ux14) rfl (by decide) (fun T w' hb hd hB K hK => ?sx14) ?rx14
  case sx14 =>
    have e82 := hd 11 82 _ (by decide) (by kernel_rfl) rfl rfl
    replace e82 : T.getD 82 undef = _ := e82
    have e83 := hd 12 83 _ (by decide) (by kernel_rfl) rfl rfl
    replace e83 : T.getD 83 undef = _ := e83
    have eg := hd 10 81 _ (by decide) (by kernel_rfl) rfl rfl
    replace eg : T.getD 81 undef = .bool false := eg
    rw [if_pos (wanted_yes 10 81 false rfl rfl eg)]
    clear eg
    have hcl := hF13 w' hb
    clear hd hB
    go_simp
    go_at_call 37
    refine hcl.mono ?_
    rintro e w2 ⟨rfl, h2⟩
    exact hK _ h2
  refine DetR.is (o := { dst := some 85, op := Op.unOp UnOp.not 4 (Operand.tmp 84), type := 4, pos := "law.go:141", after := #[{ on := 13, ground := Ground.data }, { on := 10, ground := Ground.guard }], guard := some (10, false) }) (u := .bool false) rfl (by decide) (fun T w' hb hd hB K hK => ?sx15) ?rx15
  case sx15 =>
    have e84 := hd 13 84 _ (by decide) (by kernel_rfl) rfl rfl
    replace e84 : T.getD 84 undef = _ := e84
    have eg := hd 10 81 _ (by decide) (by kernel_rfl) rfl rfl
    replace eg : T.getD 81 undef = .bool false := eg
    rw [if_pos (wanted_yes 10 81 false rfl rfl eg)]
    clear eg
    clear hd hB
    go_simp
    exact hK _ (Below.refl _ _)
  refine DetR.is (o := { dst := some 86, op := Op.pick (Operand.tmp 81) (Operand.const (Value.bool true)) (Operand.tmp 85), type := 4, pos := "law.go:141", after := #[{ on := 10, ground := Ground.data }, { on := 14, ground := Ground.data }], guard := none }) (u := .bool false) rfl (by decide) (fun T w' hb hd hB K hK => ?sx16) ?rx16
  case sx16 =>
    have e81 := hd 10 81 _ (by decide) (by kernel_rfl) rfl rfl
    replace e81 : T.getD 81 undef = _ := e81
    have e85 := hd 14 85 _ (by decide) (by kernel_rfl) rfl rfl
    replace e85 : T.getD 85 undef = _ := e85
    rw [if_pos (wanted_none _ rfl)]
    clear hd hB
    go_simp
    exact hK _ (Below.refl _ _)
  refine DetR.is (o := { dst := some 87, op := Op.move (Operand.tmp 86), type := 4, pos := "law.go:141", after := #[{ on := 15, ground := Ground.data }, { on := 13, ground := Ground.chain }], guard := none }) (u := .bool false) rfl (by decide) (fun T w' hb hd hB K hK => ?sx17) ?rx17
  case sx17 =>
    have e86 := hd 15 86 _ (by decide) (by kernel_rfl) rfl rfl
    replace e86 : T.getD 86 undef = _ := e86
    rw [if_pos (wanted_none _ rfl)]
    clear hd hB
    go_simp
    exact hK _ (Below.refl _ _)
  refine DetR.is (o := { dst := some 88, op := Op.load 30 (Operand.tmp 17), type := 30, pos := "law.go:141", after := #[{ on := 16, ground := Ground.guard }], guard := some (16, false) }) (u := ?ux18) rfl (by decide) (fun T w' hb hd hB K hK => ?sx18) ?rx18
  case sx18 =>
    have e17 := (hB 17 (by kernel_rfl)).trans hT17
    have q17_0 : w'.cell? ⟨gk, 0, none⟩ = some (bf) := (blk_cell (blk_below hX17 hb) 0).trans rfl
    have q17_1 : w'.cell? ⟨gk, 1, none⟩ = some (bl) := (blk_cell (blk_below hX17 hb) 1).trans rfl
    have eg := hd 16 87 _ (by decide) (by kernel_rfl) rfl rfl
    replace eg : T.getD 87 undef = .bool false := eg
    rw [if_pos (wanted_yes 16 87 false rfl rfl eg)]
    clear eg
    clear hd hB
    go_simp
    exact hK _ (Below.refl _ _)
  refine DetR.is (o := { dst := some 89, op := Op.load 30 (Operand.tmp 7), type := 30, pos := "law.go:141", after := #[{ on := 16, ground := Ground.guard }], guard := some (16, false) }) (u := ?ux19) rfl (by decide) (fun T w' hb hd hB K hK => ?sx19) ?rx19
  case sx19 =>
    have e7 := (hB 7 (by kernel_rfl)).trans hT7
    have q7_0 : w'.cell? ⟨ga, 0, none⟩ = some (xf) := (blk_cell (blk_below hX7 hb) 0).trans rfl
    have q7_1 : w'.cell? ⟨ga, 1, none⟩ = some (xl) := (blk_cell (blk_below hX7 hb) 1).trans rfl
    have eg := hd 16 87 _ (by decide) (by kernel_rfl) rfl rfl
    replace eg : T.getD 87 undef = .bool false := eg
    rw [if_pos (wanted_yes 16 87 false rfl rfl eg)]
    clear eg
    clear hd hB
    go_simp
    exact hK _ (Below.refl _ _)
  refine DetR.is (o := { dst := some 90, op := Op.call { callee := Callee.value (Operand.func 37), args := #[Operand.tmp 88, Operand.tmp 89], argTypes := #[30, 30] }, type := 4, pos := "law.go:141", after := #[{ on := 17, ground := Ground.data }, { on := 18, ground := Ground.data }, { on := 16, ground := Ground.chain }, { on := 16, ground := Ground.guard }], guard := some (16, false) }) (u := ?ux20) rfl (by decide) (fun T w' hb hd hB K hK => ?sx20) ?rx20
  case sx20 =>
    have e88 := hd 17 88 _ (by decide) (by kernel_rfl) rfl rfl
    replace e88 : T.getD 88 undef = _ := e88
    have e89 := hd 18 89 _ (by decide) (by kernel_rfl) rfl rfl
    replace e89 : T.getD 89 undef = _ := e89
    have eg := hd 16 87 _ (by decide) (by kernel_rfl) rfl rfl
    replace eg : T.getD 87 undef = .bool false := eg
    rw [if_pos (wanted_yes 16 87 false rfl rfl eg)]
    clear eg
    have hcl := hF19 w' hb
    clear hd hB
    go_simp
    go_at_call 37
    refine hcl.mono ?_
    rintro e w2 ⟨rfl, h2⟩
    exact hK _ h2
  refine DetR.is (o := { dst := some 91, op := Op.unOp UnOp.not 4 (Operand.tmp 90), type := 4, pos := "law.go:141", after := #[{ on := 19, ground := Ground.data }, { on := 16, ground := Ground.guard }], guard := some (16, false) }) (u := .bool false) rfl (by decide) (fun T w' hb hd hB K hK => ?sx21) ?rx21
  case sx21 =>
    have e90 := hd 19 90 _ (by decide) (by kernel_rfl) rfl rfl
    replace e90 : T.getD 90 undef = _ := e90
    have eg := hd 16 87 _ (by decide) (by kernel_rfl) rfl rfl
    replace eg : T.getD 87 undef = .bool false := eg
    rw [if_pos (wanted_yes 16 87 false rfl rfl eg)]
    clear eg
    clear hd hB
    go_simp
    exact hK _ (Below.refl _ _)
  refine DetR.is (o := { dst := some 92, op := Op.pick (Operand.tmp 87) (Operand.const (Value.bool true)) (Operand.tmp 91), type := 4, pos := "law.go:141", after := #[{ on := 16, ground := Ground.data }, { on := 20, ground := Ground.data }], guard := none }) (u := .bool false) rfl (by decide) (fun T w' hb hd hB K hK => ?sx22) ?rx22
  case sx22 =>
    have e87 := hd 16 87 _ (by decide) (by kernel_rfl) rfl rfl
    replace e87 : T.getD 87 undef = _ := e87
    have e91 := hd 20 91 _ (by decide) (by kernel_rfl) rfl rfl
    replace e91 : T.getD 91 undef = _ := e91
    rw [if_pos (wanted_none _ rfl)]
    clear hd hB
    go_simp
    exact hK _ (Below.refl _ _)
  refine DetR.is (o := { dst := some 93, op := Op.move (Operand.tmp 92), type := 4, pos := "law.go:141", after := #[{ on := 21, ground := Ground.data }, { on := 19, ground := Ground.chain }], guard := none }) (u := .bool false) rfl (by decide) (fun T w' hb hd hB K hK => ?sx23) ?rx23
  case sx23 =>
    have e92 := hd 21 92 _ (by decide) (by kernel_rfl) rfl rfl
    replace e92 : T.getD 92 undef = _ := e92
    rw [if_pos (wanted_none _ rfl)]
    clear hd hB
    go_simp
    exact hK _ (Below.refl _ _)
  refine DetR.is (o := { dst := some 94, op := Op.load 30 (Operand.tmp 13), type := 30, pos := "law.go:141", after := #[{ on := 22, ground := Ground.guard }], guard := some (22, false) }) (u := ?ux24) rfl (by decide) (fun T w' hb hd hB K hK => ?sx24) ?rx24
  case sx24 =>
    have e13 := (hB 13 (by kernel_rfl)).trans hT13
    have q13_0 : w'.cell? ⟨gz, 0, none⟩ = some (zf) := (blk_cell (blk_below hX13 hb) 0).trans rfl
    have q13_1 : w'.cell? ⟨gz, 1, none⟩ = some (zl) := (blk_cell (blk_below hX13 hb) 1).trans rfl
    have eg := hd 22 93 _ (by decide) (by kernel_rfl) rfl rfl
    replace eg : T.getD 93 undef = .bool false := eg
    rw [if_pos (wanted_yes 22 93 false rfl rfl eg)]
    clear eg
    clear hd hB
    go_simp
    exact hK _ (Below.refl _ _)
  refine DetR.is (o := { dst := some 95, op := Op.call { callee := Callee.value (Operand.func 34), args := #[Operand.tmp 94], argTypes := #[30] }, type := 3, pos := "law.go:141", after := #[{ on := 23, ground := Ground.data }, { on := 22, ground := Ground.chain }, { on := 22, ground := Ground.guard }], guard := some (22, false) }) (u := ?ux25) rfl (by decide) (fun T w' hb hd hB K hK => ?sx25) ?rx25
  case sx25 =>
    have e94 := hd 23 94 _ (by decide) (by kernel_rfl) rfl rfl
    replace e94 : T.getD 94 undef = _ := e94
    have eg := hd 22 93 _ (by decide) (by kernel_rfl) rfl rfl
    replace eg : T.getD 93 undef = .bool false := eg
    rw [if_pos (wanted_yes 22 93 false rfl rfl eg)]
    clear eg
    have hcl := hF24 w' hb
    clear hd hB
    go_simp
    go_at_call 34
    refine hcl.mono ?_
    rintro e w2 ⟨rfl, h2⟩
    exact hK _ h2
  refine DetR.is (o := { dst := some 96, op := Op.load 30 (Operand.tmp 7), type := 30, pos := "law.go:141", after := #[{ on := 22, ground := Ground.guard }], guard := some (22, false) }) (u := ?ux26) rfl (by decide) (fun T w' hb hd hB K hK => ?sx26) ?rx26
  case sx26 =>
    have e7 := (hB 7 (by kernel_rfl)).trans hT7
    have q7_0 : w'.cell? ⟨ga, 0, none⟩ = some (xf) := (blk_cell (blk_below hX7 hb) 0).trans rfl
    have q7_1 : w'.cell? ⟨ga, 1, none⟩ = some (xl) := (blk_cell (blk_below hX7 hb) 1).trans rfl
    have eg := hd 22 93 _ (by decide) (by kernel_rfl) rfl rfl
    replace eg : T.getD 93 undef = .bool false := eg
    rw [if_pos (wanted_yes 22 93 false rfl rfl eg)]
    clear eg
    clear hd hB
    go_simp
    exact hK _ (Below.refl _ _)
  refine DetR.is (o := { dst := some 97, op := Op.call { callee := Callee.value (Operand.func 34), args := #[Operand.tmp 96], argTypes := #[30] }, type := 3, pos := "law.go:141", after := #[{ on := 25, ground := Ground.data }, { on := 24, ground := Ground.chain }, { on := 22, ground := Ground.guard }], guard := some (22, false) }) (u := ?ux27) rfl (by decide) (fun T w' hb hd hB K hK => ?sx27) ?rx27
  case sx27 =>
    have e96 := hd 25 96 _ (by decide) (by kernel_rfl) rfl rfl
    replace e96 : T.getD 96 undef = _ := e96
    have eg := hd 22 93 _ (by decide) (by kernel_rfl) rfl rfl
    replace eg : T.getD 93 undef = .bool false := eg
    rw [if_pos (wanted_yes 22 93 false rfl rfl eg)]
    clear eg
    have hcl := hF26 w' hb
    clear hd hB
    go_simp
    go_at_call 34
    refine hcl.mono ?_
    rintro e w2 ⟨rfl, h2⟩
    exact hK _ h2
  refine DetR.is (o := { dst := some 98, op := Op.load 30 (Operand.tmp 11), type := 30, pos := "law.go:141", after := #[{ on := 22, ground := Ground.guard }], guard := some (22, false) }) (u := ?ux28) rfl (by decide) (fun T w' hb hd hB K hK => ?sx28) ?rx28
  case sx28 =>
    have e11 := (hB 11 (by kernel_rfl)).trans hT11
    have q11_0 : w'.cell? ⟨gs, 0, none⟩ = some (sf) := (blk_cell (blk_below hX11 hb) 0).trans rfl
    have q11_1 : w'.cell? ⟨gs, 1, none⟩ = some (sl) := (blk_cell (blk_below hX11 hb) 1).trans rfl
    have eg := hd 22 93 _ (by decide) (by kernel_rfl) rfl rfl
    replace eg : T.getD 93 undef = .bool false := eg
    rw [if_pos (wanted_yes 22 93 false rfl rfl eg)]
    clear eg
    clear hd hB
    go_simp
    exact hK _ (Below.refl _ _)
  refine DetR.is (o := { dst := some 99, op := Op.call { callee := Callee.value (Operand.func 34), args := #[Operand.tmp 98], argTypes := #[30] }, type := 3, pos := "law.go:141", after := #[{ on := 27, ground := Ground.data }, { on := 26, ground := Ground.chain }, { on := 22, ground := Ground.guard }], guard := some (22, false) }) (u := ?ux29) rfl (by decide) (fun T w' hb hd hB K hK => ?sx29) ?rx29
  case sx29 =>
    have e98 := hd 27 98 _ (by decide) (by kernel_rfl) rfl rfl
    replace e98 : T.getD 98 undef = _ := e98
    have eg := hd 22 93 _ (by decide) (by kernel_rfl) rfl rfl
    replace eg : T.getD 93 undef = .bool false := eg
    rw [if_pos (wanted_yes 22 93 false rfl rfl eg)]
    clear eg
    have hcl := hF28 w' hb
    clear hd hB
    go_simp
    go_at_call 34
    refine hcl.mono ?_
    rintro e w2 ⟨rfl, h2⟩
    exact hK _ h2
  refine DetR.is (o := { dst := some 100, op := Op.binOp BinOp.sub 3 (Operand.tmp 97) (Operand.tmp 99) 3, type := 3, pos := "law.go:141", after := #[{ on := 26, ground := Ground.data }, { on := 28, ground := Ground.data }, { on := 22, ground := Ground.guard }], guard := some (22, false) }) (u := ?ux30) rfl (by decide) (fun T w' hb hd hB K hK => ?sx30) ?rx30
  case sx30 =>
    have e97 := hd 26 97 _ (by decide) (by kernel_rfl) rfl rfl
    replace e97 : T.getD 97 undef = _ := e97
    have e99 := hd 28 99 _ (by decide) (by kernel_rfl) rfl rfl
    replace e99 : T.getD 99 undef = _ := e99
    have eg := hd 22 93 _ (by decide) (by kernel_rfl) rfl rfl
    replace eg : T.getD 93 undef = .bool false := eg
    rw [if_pos (wanted_yes 22 93 false rfl rfl eg)]
    clear eg
    clear hd hB
    go_simp
    exact hK _ (Below.refl _ _)
  refine DetR.is (o := { dst := some 101, op := Op.load 30 (Operand.tmp 8), type := 30, pos := "law.go:141", after := #[{ on := 22, ground := Ground.guard }], guard := some (22, false) }) (u := ?ux31) rfl (by decide) (fun T w' hb hd hB K hK => ?sx31) ?rx31
  case sx31 =>
    have e8 := (hB 8 (by kernel_rfl)).trans hT8
    have q8_0 : w'.cell? ⟨gb, 0, none⟩ = some (yf) := (blk_cell (blk_below hX8 hb) 0).trans rfl
    have q8_1 : w'.cell? ⟨gb, 1, none⟩ = some (yl) := (blk_cell (blk_below hX8 hb) 1).trans rfl
    have eg := hd 22 93 _ (by decide) (by kernel_rfl) rfl rfl
    replace eg : T.getD 93 undef = .bool false := eg
    rw [if_pos (wanted_yes 22 93 false rfl rfl eg)]
    clear eg
    clear hd hB
    go_simp
    exact hK _ (Below.refl _ _)
  refine DetR.is (o := { dst := some 102, op := Op.call { callee := Callee.value (Operand.func 34), args := #[Operand.tmp 101], argTypes := #[30] }, type := 3, pos := "law.go:141", after := #[{ on := 30, ground := Ground.data }, { on := 28, ground := Ground.chain }, { on := 22, ground := Ground.guard }], guard := some (22, false) }) (u := ?ux32) rfl (by decide) (fun T w' hb hd hB K hK => ?sx32) ?rx32
  case sx32 =>
    have e101 := hd 30 101 _ (by decide) (by kernel_rfl) rfl rfl
    replace e101 : T.getD 101 undef = _ := e101
    have eg := hd 22 93 _ (by decide) (by kernel_rfl) rfl rfl
    replace eg : T.getD 93 undef = .bool false := eg
    rw [if_pos (wanted_yes 22 93 false rfl rfl eg)]
    clear eg
    have hcl := hF31 w' hb
    clear hd hB
    go_simp
    go_at_call 34
    refine hcl.mono ?_
    rintro e w2 ⟨rfl, h2⟩
    exact hK _ h2
  refine DetR.is (o := { dst := some 103, op := Op.binOp BinOp.add 3 (Operand.tmp 100) (Operand.tmp 102) 3, type := 3, pos := "law.go:141", after := #[{ on := 29, ground := Ground.data }, { on := 31, ground := Ground.data }, { on := 22, ground := Ground.guard }], guard := some (22, false) }) (u := ?ux33) rfl (by decide) (fun T w' hb hd hB K hK => ?sx33) ?rx33
  case sx33 =>
    have e100 := hd 29 100 _ (by decide) (by kernel_rfl) rfl rfl
    replace e100 : T.getD 100 undef = _ := e100
    have e102 := hd 31 102 _ (by decide) (by kernel_rfl) rfl rfl
    replace e102 : T.getD 102 undef = _ := e102
    have eg := hd 22 93 _ (by decide) (by kernel_rfl) rfl rfl
    replace eg : T.getD 93 undef = .bool false := eg
    rw [if_pos (wanted_yes 22 93 false rfl rfl eg)]
    clear eg
    clear hd hB
    go_simp
    exact hK _ (Below.refl _ _)
  refine DetR.is (o := { dst := some 104, op := Op.binOp BinOp.neq 3 (Operand.tmp 95) (Operand.tmp 103) 3, type := 4, pos := "law.go:141", after := #[{ on := 24, ground := Ground.data }, { on := 32, ground := Ground.data }, { on := 22, ground := Ground.guard }], guard := some (22, false) }) (u := .bool false) rfl (by decide) (fun T w' hb hd hB K hK => ?sx34) ?rx34
  case sx34 =>
    have e95 := hd 24 95 _ (by decide) (by kernel_rfl) rfl rfl
    replace e95 : T.getD 95 undef = _ := e95
    have e103 := hd 32 103 _ (by decide) (by kernel_rfl) rfl rfl
    replace e103 : T.getD 103 undef = _ := e103
    have eg := hd 22 93 _ (by decide) (by kernel_rfl) rfl rfl
    replace eg : T.getD 93 undef = .bool false := eg
    rw [if_pos (wanted_yes 22 93 false rfl rfl eg)]
    clear eg
    clear hd hB
    go_simp
    have hq : ((nz : Int) != IntKind.i64.wrap (IntKind.i64.wrap ((nx : Int) - (ns : Int)) + (ny : Int))) = false := by rw [bne_eq_false_iff_eq]; simp only [i64_w]; unfold wrap64; omega
    first | rw [hq] | skip
    exact hK _ (Below.refl _ _)
  refine DetR.is (o := { dst := some 105, op := Op.pick (Operand.tmp 93) (Operand.const (Value.bool true)) (Operand.tmp 104), type := 4, pos := "law.go:141", after := #[{ on := 22, ground := Ground.data }, { on := 33, ground := Ground.data }], guard := none }) (u := .bool false) rfl (by decide) (fun T w' hb hd hB K hK => ?sx35) ?rx35
  case sx35 =>
    have e93 := hd 22 93 _ (by decide) (by kernel_rfl) rfl rfl
    replace e93 : T.getD 93 undef = _ := e93
    have e104 := hd 33 104 _ (by decide) (by kernel_rfl) rfl rfl
    replace e104 : T.getD 104 undef = _ := e104
    rw [if_pos (wanted_none _ rfl)]
    clear hd hB
    go_simp
    exact hK _ (Below.refl _ _)
  refine DetR.done [some 71, some 72, some 73, some 74, some 75, some 76, some 77, some 78, some 79, some 80, some 81, some 82, some 83, some 84, some 85, some 86, some 87, some 88, some 89, some 90, some 91, some 92, some 93, some 94, some 95, some 96, some 97, some 98, some 99, some 100, some 101, some 102, some 103, some 104, some 105] (by kernel_rfl) rfl (by kernel_rfl) ?_
  intro v w' hb hv
  exact hK v w' hb (hv 34 _ (by decide) rfl)
set_option maxHeartbeats 4000000 in
set_option maxRecDepth 100000 in
theorem TermPuts_r18 {id : Nat} {a : Act} {w : World} {Q : Exit → Act → World → Prop} {i : Int} {ga m cl lq cq : Nat} {xf xl : Value} {r : S30} {b : Bool} {ad : Addr} {Aq : Option Addr}
    (hr : regionOk #[{ dst := some 127, op := Op.load 30 (Operand.tmp 7), type := 30, pos := "law.go:148", after := #[], guard := none }, { dst := some 128, op := Op.move (Operand.tmp 9), type := 32, pos := "law.go:148", after := #[], guard := none }, { dst := some 129, op := Op.move (Operand.tmp 19), type := 3, pos := "law.go:148", after := #[], guard := none }, { dst := some 130, op := Op.indexAddr 32 (Operand.tmp 128) (Operand.tmp 129), type := 0, pos := "law.go:148", after := #[{ on := 1, ground := Ground.data }, { on := 2, ground := Ground.data }], guard := none }, { dst := some 131, op := Op.load 25 (Operand.tmp 130), type := 25, pos := "law.go:148", after := #[{ on := 3, ground := Ground.data }], guard := none }, { dst := some 132, op := Op.call { callee := Callee.value (Operand.func 27), args := #[Operand.tmp 127, Operand.tmp 131], argTypes := #[30, 25] }, type := 37, pos := "law.go:148", after := #[{ on := 0, ground := Ground.data }, { on := 4, ground := Ground.data }], guard := none }, { dst := some 126, op := Op.move (Operand.tmp 132), type := 37, pos := "law.go:148", after := #[{ on := 5, ground := Ground.data }], guard := none }, { dst := some 133, op := Op.extract (Operand.tmp 126) 0, type := 30, pos := "law.go:148", after := #[{ on := 6, ground := Ground.data }], guard := none }, { dst := some 134, op := Op.extract (Operand.tmp 126) 1, type := 4, pos := "law.go:148", after := #[{ on := 6, ground := Ground.data }, { on := 10, ground := Ground.gcOnly Departure.lateStores }], guard := none }, { dst := some 20, op := Op.alloc 30, type := 0, pos := "law.go:148", after := #[], guard := none }, { dst := none, op := Op.store 30 (Operand.tmp 20) (Operand.tmp 133), type := 0, pos := "law.go:148", after := #[{ on := 9, ground := Ground.data }, { on := 7, ground := Ground.data }, { on := 5, ground := Ground.chain }, { on := 0, ground := Ground.phase }, { on := 1, ground := Ground.phase }, { on := 2, ground := Ground.phase }, { on := 3, ground := Ground.phase }, { on := 4, ground := Ground.phase }, { on := 5, ground := Ground.phase }, { on := 6, ground := Ground.phase }, { on := 7, ground := Ground.phase }, { on := 8, ground := Ground.textOnly Departure.lateStores }, { on := 9, ground := Ground.phase }], guard := none }, { dst := some 21, op := Op.assign (Operand.tmp 134), type := 4, pos := "law.go:148", after := #[{ on := 8, ground := Ground.data }, { on := 10, ground := Ground.chain }, { on := 0, ground := Ground.phase }, { on := 1, ground := Ground.phase }, { on := 2, ground := Ground.phase }, { on := 3, ground := Ground.phase }, { on := 4, ground := Ground.phase }, { on := 5, ground := Ground.phase }, { on := 6, ground := Ground.phase }, { on := 7, ground := Ground.phase }, { on := 8, ground := Ground.phase }, { on := 9, ground := Ground.phase }, { on := 10, ground := Ground.phase }], guard := none }] a.tmps.size = true)
    (hT9 : a.tmps.getD 9 undef = .slice (some ad) m cl)
    (hT19 : a.tmps.getD 19 undef = .int .i64 i)
    (hT7 : a.tmps.getD 7 undef = .pointer (some ⟨ga, 0, none⟩)) (hX7 : w.heap[ga]? = some (.cells #[xf, xl] 30 (0, 0)))
    (hi : 0 ≤ i ∧ i < m) (hc0 : w.cell? (ad.add i.toNat) = some (.slice Aq lq cq))
    (hF : ∀ w1, Below w.heap.size w w1 → Calls Try.prog 27 #[.agg #[xf, xl], .slice Aq lq cq] w1 fun e w2 => ∃ A' c', e = .returned (.tuple #[.agg #[.int .i64 r.f0, .slice A' r.f1.length c'], .bool b]) ∧ r.f1.length ≤ c' ∧ Kd.F k30 w2 (fun k => k < w.heap.size ∨ w1.heap.size ≤ k) A' r.f1.length r.f1 ∧ Below w1.heap.size w1 w2)
    (hK : ∀ v w' g A' c', Below w.heap.size w w' → v 11 = .bool b → v 9 = .pointer (some ⟨g, 0, none⟩) → w.heap.size ≤ g → w'.heap[g]? = some (.cells #[.int .i64 r.f0, .slice A' r.f1.length c'] 30 (0, 0)) → r.f1.length ≤ c' → Kd.F k30 w' (fun k => k ≠ g) A' r.f1.length r.f1 → Q .normal { tmps := layL [some 127, some 128, some 129, some 130, some 131, some 132, some 126, some 133, some 134, some 20, none, some 21] 0 v a.tmps, defers := a.defers } w') :
    (Code.region id #[{ dst := some 127, op := Op.load 30 (Operand.tmp 7), type := 30, pos := "law.go:148", after := #[], guard := none }, { dst := some 128, op := Op.move (Operand.tmp 9), type := 32, pos := "law.go:148", after := #[], guard := none }, { dst := some 129, op := Op.move (Operand.tmp 19), type := 3, pos := "law.go:148", after := #[], guard := none }, { dst := some 130, op := Op.indexAddr 32 (Operand.tmp 128) (Operand.tmp 129), type := 0, pos := "law.go:148", after := #[{ on := 1, ground := Ground.data }, { on := 2, ground := Ground.data }], guard := none }, { dst := some 131, op := Op.load 25 (Operand.tmp 130), type := 25, pos := "law.go:148", after := #[{ on := 3, ground := Ground.data }], guard := none }, { dst := some 132, op := Op.call { callee := Callee.value (Operand.func 27), args := #[Operand.tmp 127, Operand.tmp 131], argTypes := #[30, 25] }, type := 37, pos := "law.go:148", after := #[{ on := 0, ground := Ground.data }, { on := 4, ground := Ground.data }], guard := none }, { dst := some 126, op := Op.move (Operand.tmp 132), type := 37, pos := "law.go:148", after := #[{ on := 5, ground := Ground.data }], guard := none }, { dst := some 133, op := Op.extract (Operand.tmp 126) 0, type := 30, pos := "law.go:148", after := #[{ on := 6, ground := Ground.data }], guard := none }, { dst := some 134, op := Op.extract (Operand.tmp 126) 1, type := 4, pos := "law.go:148", after := #[{ on := 6, ground := Ground.data }, { on := 10, ground := Ground.gcOnly Departure.lateStores }], guard := none }, { dst := some 20, op := Op.alloc 30, type := 0, pos := "law.go:148", after := #[], guard := none }, { dst := none, op := Op.store 30 (Operand.tmp 20) (Operand.tmp 133), type := 0, pos := "law.go:148", after := #[{ on := 9, ground := Ground.data }, { on := 7, ground := Ground.data }, { on := 5, ground := Ground.chain }, { on := 0, ground := Ground.phase }, { on := 1, ground := Ground.phase }, { on := 2, ground := Ground.phase }, { on := 3, ground := Ground.phase }, { on := 4, ground := Ground.phase }, { on := 5, ground := Ground.phase }, { on := 6, ground := Ground.phase }, { on := 7, ground := Ground.phase }, { on := 8, ground := Ground.textOnly Departure.lateStores }, { on := 9, ground := Ground.phase }], guard := none }, { dst := some 21, op := Op.assign (Operand.tmp 134), type := 4, pos := "law.go:148", after := #[{ on := 8, ground := Ground.data }, { on := 10, ground := Ground.chain }, { on := 0, ground := Ground.phase }, { on := 1, ground := Ground.phase }, { on := 2, ground := Ground.phase }, { on := 3, ground := Ground.phase }, { on := 4, ground := Ground.phase }, { on := 5, ground := Ground.phase }, { on := 6, ground := Ground.phase }, { on := 7, ground := Ground.phase }, { on := 8, ground := Ground.phase }, { on := 9, ground := Ground.phase }, { on := 10, ground := Ground.phase }], guard := none }] true).wp Try.prog Q a w := by
  have hmx : Try.prog.follows .mixedOrders = true := by kernel_rfl
  have hJo : ∀ i, i ∉ [5, 6, 7, 9, 10] → ∀ v d (w1 w2 : World) u, (RetJ w.heap.size 30 [(5, TupF k30 r b (fun _ => True)), (6, TupF k30 r b (fun _ => True)), (7, TermF k30 r (fun _ => True))] 9 10 7) v d w1 → d i = false → Below w1.heap.size w1 w2 → (RetJ w.heap.size 30 [(5, TupF k30 r b (fun _ => True)), (6, TupF k30 r b (fun _ => True)), (7, TermF k30 r (fun _ => True))] 9 10 7) (upd v i u) (upd d i true) w2 := fun i hi v d w1 w2 u h hd hb => RetJ.val h hd (fun e => hi (by simp [← e])) (fun e => hi (by simp [← e])) hb (fun q hq e => absurd (by simp only [List.mem_cons, List.not_mem_nil, or_false] at hq; rcases hq with rfl | rfl | rfl <;> simp [← e]) hi)
  refine region_detJ (fun _ _ => True) (RetJ w.heap.size 30 [(5, TupF k30 r b (fun _ => True)), (6, TupF k30 r b (fun _ => True)), (7, TermF k30 r (fun _ => True))] 9 10 7) 12 (trivial) (fun v => RetJ.start w.drew (Nat.le_refl w.heap.size) v) hmx hr rfl ?_
  refine DetJ.is (o := { dst := some 127, op := Op.load 30 (Operand.tmp 7), type := 30, pos := "law.go:148", after := #[], guard := none }) (u := ?ux36) (fun _ _ _ => trivial) [5, 6, 7, 9, 10] hJo rfl (by decide) (by decide) (fun T w' hb hd hB K hK => ?sx36) ?rx36
  case sx36 =>
    have e7 := (hB 7 (by kernel_rfl)).trans hT7
    have q7_0 : w'.cell? ⟨ga, 0, none⟩ = some (xf) := (blk_cell (blk_below hX7 hb) 0).trans rfl
    have q7_1 : w'.cell? ⟨ga, 1, none⟩ = some (xl) := (blk_cell (blk_below hX7 hb) 1).trans rfl
    rw [if_pos (wanted_none _ rfl)]
    clear hd hB
    go_simp
    exact hK _ (Below.refl _ _)
  refine DetJ.is (o := { dst := some 128, op := Op.move (Operand.tmp 9), type := 32, pos := "law.go:148", after := #[], guard := none }) (u := ?ux37) (fun _ _ _ => trivial) [5, 6, 7, 9, 10] hJo rfl (by decide) (by decide) (fun T w' hb hd hB K hK => ?sx37) ?rx37
  case sx37 =>
    have e9 := (hB 9 (by kernel_rfl)).trans hT9
    rw [if_pos (wanted_none _ rfl)]
    clear hd hB
    go_simp
    exact hK _ (Below.refl _ _)
  refine DetJ.is (o := { dst := some 129, op := Op.move (Operand.tmp 19), type := 3, pos := "law.go:148", after := #[], guard := none }) (u := ?ux38) (fun _ _ _ => trivial) [5, 6, 7, 9, 10] hJo rfl (by decide) (by decide) (fun T w' hb hd hB K hK => ?sx38) ?rx38
  case sx38 =>
    have e19 := (hB 19 (by kernel_rfl)).trans hT19
    rw [if_pos (wanted_none _ rfl)]
    clear hd hB
    go_simp
    exact hK _ (Below.refl _ _)
  refine DetJ.is (o := { dst := some 130, op := Op.indexAddr 32 (Operand.tmp 128) (Operand.tmp 129), type := 0, pos := "law.go:148", after := #[{ on := 1, ground := Ground.data }, { on := 2, ground := Ground.data }], guard := none }) (u := .pointer (some (ad.add i.toNat))) (fun _ _ _ => trivial) [5, 6, 7, 9, 10] hJo rfl (by decide) (by decide) (fun T w' hb hd hB K hK => ?sx39) ?rx39
  case sx39 =>
    have e128 := hd 1 128 _ (by decide) (by kernel_rfl) rfl rfl
    replace e128 : T.getD 128 undef = _ := e128
    have e129 := hd 2 129 _ (by decide) (by kernel_rfl) rfl rfl
    replace e129 : T.getD 129 undef = _ := e129
    rw [if_pos (wanted_none _ rfl)]
    have hi0 := hi.1
    have hi1 := hi.2
    clear hd hB
    go_simp
    exact hK _ (Below.refl _ _)
  refine DetJ.is (o := { dst := some 131, op := Op.load 25 (Operand.tmp 130), type := 25, pos := "law.go:148", after := #[{ on := 3, ground := Ground.data }], guard := none }) (u := ?ux40) (fun _ _ _ => trivial) [5, 6, 7, 9, 10] hJo rfl (by decide) (by decide) (fun T w' hb hd hB K hK => ?sx40) ?rx40
  case sx40 =>
    have e130 := hd 3 130 _ (by decide) (by kernel_rfl) rfl rfl
    replace e130 : T.getD 130 undef = _ := e130
    rw [if_pos (wanted_none _ rfl)]
    have hc0' := (hb.cell (cell_lt' hc0)).trans hc0
    clear hd hB
    go_simp
    exact hK _ (Below.refl _ _)
  refine DetJ.cons (o := { dst := some 132, op := Op.call { callee := Callee.value (Operand.func 27), args := #[Operand.tmp 127, Operand.tmp 131], argTypes := #[30, 25] }, type := 37, pos := "law.go:148", after := #[{ on := 0, ground := Ground.data }, { on := 4, ground := Ground.data }], guard := none }) (fun _ _ => True) rfl (by decide) (fun _ _ _ _ _ => trivial) (fun v d T w' hb hj hd0 hd hdd hB K hK => ?sx41) ?rx41
  case sx41 =>
    have e127 := hd 0 127 _ (by decide) (by kernel_rfl) rfl rfl
    replace e127 : T.getD 127 undef = _ := e127
    have e131 := hd 4 131 _ (by decide) (by kernel_rfl) rfl rfl
    replace e131 : T.getD 131 undef = _ := e131
    rw [if_pos (wanted_none _ rfl)]
    have hcl := hF w' hb
    clear hd hdd hB
    go_simp
    go_at_call 27
    refine hcl.mono ?_
    rintro e w2 ⟨A', c', rfl, hl', hF', hb'⟩
    have hfp : (TupF k30 r b (fun _ => True)).p (fun k => okF 9 v d k ∨ w'.heap.size ≤ k) (.tuple #[.agg #[.int .i64 r.f0, .slice A' r.f1.length c'], .bool b]) w2 := ⟨_, _, rfl, hl', Kd.F_mono hF' (fun k hk => ⟨hk.elim (fun h => .inl (RetJ.old hj h)) .inr, trivial⟩)⟩
    exact hK _ _ trivial (hb.trans (hb'.mono hb.size)) trivial (RetJ.val hj hd0 (by decide) (by decide) hb' (fun q hq e => by simp only [List.mem_cons, List.not_mem_nil, or_false] at hq; rcases hq with rfl | rfl | rfl <;> first | exact hfp | exact absurd e (by simp)))
  refine DetJ.cons (o := { dst := some 126, op := Op.move (Operand.tmp 132), type := 37, pos := "law.go:148", after := #[{ on := 5, ground := Ground.data }], guard := none }) (fun _ _ => True) rfl (by decide) (fun _ _ _ _ _ => trivial) (fun v d T w' hb hj hd0 hd hdd hB K hK => ?sx42) ?rx42
  case sx42 =>
    have e132 := (hdd 5 (by kernel_rfl)).2 132 rfl
    rw [if_pos (wanted_none _ rfl)]
    have xq := (hdd 5 (by kernel_rfl)).1
    obtain ⟨Aq, cq, yq, hlq, hFq⟩ := hj.2.1 (5, TupF k30 r b (fun _ => True)) (by simp) xq
    replace e132 := e132.trans yq
    clear hd hdd hB
    go_simp
    exact hK _ _ trivial hb trivial (RetJ.val hj hd0 (by decide) (by decide) (Below.refl _ _) (fun q hq e => by simp only [List.mem_cons, List.not_mem_nil, or_false] at hq; rcases hq with rfl | rfl | rfl <;> first | exact ⟨_, _, rfl, hlq, Kd.F_mono hFq (fun k hk => ⟨.inl hk.1, trivial⟩)⟩ | exact absurd e (by simp)))
  refine DetJ.cons (o := { dst := some 133, op := Op.extract (Operand.tmp 126) 0, type := 30, pos := "law.go:148", after := #[{ on := 6, ground := Ground.data }], guard := none }) (fun _ _ => True) rfl (by decide) (fun _ _ _ _ _ => trivial) (fun v d T w' hb hj hd0 hd hdd hB K hK => ?sx43) ?rx43
  case sx43 =>
    have e126 := (hdd 6 (by kernel_rfl)).2 126 rfl
    rw [if_pos (wanted_none _ rfl)]
    have xq := (hdd 6 (by kernel_rfl)).1
    obtain ⟨Aq, cq, yq, hlq, hFq⟩ := hj.2.1 (6, TupF k30 r b (fun _ => True)) (by simp) xq
    replace e126 := e126.trans yq
    clear hd hdd hB
    go_simp
    exact hK _ _ trivial hb trivial (RetJ.val hj hd0 (by decide) (by decide) (Below.refl _ _) (fun q hq e => by simp only [List.mem_cons, List.not_mem_nil, or_false] at hq; rcases hq with rfl | rfl | rfl <;> first | exact ⟨_, _, rfl, hlq, Kd.F_mono hFq (fun k hk => ⟨.inl hk.1, trivial⟩)⟩ | exact absurd e (by simp)))
  refine DetJ.cons (o := { dst := some 134, op := Op.extract (Operand.tmp 126) 1, type := 4, pos := "law.go:148", after := #[{ on := 6, ground := Ground.data }, { on := 10, ground := Ground.gcOnly Departure.lateStores }], guard := none }) (Told.is (.bool b)) rfl (by decide) (fun _ _ _ h _ => h) (fun v d T w' hb hj hd0 hd hdd hB K hK => ?sx44) ?rx44
  case sx44 =>
    have e126 := (hdd 6 (by kernel_rfl)).2 126 rfl
    rw [if_pos (wanted_none _ rfl)]
    have xq := (hdd 6 (by kernel_rfl)).1
    obtain ⟨Aq, cq, yq, hlq, hFq⟩ := hj.2.1 (6, TupF k30 r b (fun _ => True)) (by simp) xq
    replace e126 := e126.trans yq
    clear hd hdd hB
    go_simp
    exact hK _ _ trivial hb rfl (RetJ.val hj hd0 (by decide) (by decide) (Below.refl _ _) (fun q hq e => by simp only [List.mem_cons, List.not_mem_nil, or_false] at hq; rcases hq with rfl | rfl | rfl <;> first | exact absurd e (by simp) | exact absurd e (by simp)))
  refine DetJ.cons (o := { dst := some 20, op := Op.alloc 30, type := 0, pos := "law.go:148", after := #[], guard := none }) (fun _ _ => True) rfl (by decide) (fun _ _ _ _ _ => trivial) (fun v d T w' hb hj hd0 hd hdd hB K hK => ?sx45) ?rx45
  case sx45 =>
    rw [if_pos (wanted_none _ rfl)]
    clear hd hdd hB
    go_simp
    exact hK _ _ trivial (below_alloc hb _) trivial (RetJ.alloc hj hd0 (by decide) (by decide) (by intro q hq; simp only [List.mem_cons, List.not_mem_nil, or_false] at hq; rcases hq with rfl | rfl | rfl <;> simp))
  refine DetJ.cons (o := { dst := none, op := Op.store 30 (Operand.tmp 20) (Operand.tmp 133), type := 0, pos := "law.go:148", after := #[{ on := 9, ground := Ground.data }, { on := 7, ground := Ground.data }, { on := 5, ground := Ground.chain }, { on := 0, ground := Ground.phase }, { on := 1, ground := Ground.phase }, { on := 2, ground := Ground.phase }, { on := 3, ground := Ground.phase }, { on := 4, ground := Ground.phase }, { on := 5, ground := Ground.phase }, { on := 6, ground := Ground.phase }, { on := 7, ground := Ground.phase }, { on := 8, ground := Ground.textOnly Departure.lateStores }, { on := 9, ground := Ground.phase }], guard := none }) (fun _ _ => True) rfl (by decide) (fun _ _ _ _ _ => trivial) (fun v d T w' hb hj hd0 hd hdd hB K hK => ?sx46) ?rx46
  case sx46 =>
    have e20 := (hdd 9 (by kernel_rfl)).2 20 rfl
    have e133 := (hdd 7 (by kernel_rfl)).2 133 rfl
    rw [if_pos (wanted_none _ rfl)]
    have ea := (hdd 9 (by kernel_rfl)).1
    have xx := (hdd 7 (by kernel_rfl)).1
    obtain ⟨Ax, cx, yx, hlx, hFx⟩ := hj.2.1 (7, TermF k30 r (fun _ => True)) (by simp) xx
    have vx := (hdd 7 (by kernel_rfl)).2 133 rfl
    obtain ⟨g, va, hge, hlt, hbx⟩ := hj.2.2.1 ea
    rw [if_neg (by rw [hd0]; decide)] at hbx
    replace e20 := e20.trans va
    replace e133 := e133.trans yx
    have q0 : w'.cell? ⟨g, 0, none⟩ = some (.int .i64 0) := (blk_cell hbx 0).trans rfl
    have q1 : w'.cell? ⟨g, 1, none⟩ = some (.slice none 0 0) := (blk_cell hbx 1).trans rfl
    have z0 := blk_frozen hbx 0
    have z1 := blk_frozen hbx 1
    have hd0' := Aside0.mk hd0
    have yx' := Aside0.mk yx
    have va' := Aside0.mk va
    clear hd hdd hB vx hd0 yx va
    go_simp
    refine hK undef _ trivial ((hb.setCell hge _).setCell hge _) trivial (RetJ.store hj hd0'.out (by decide) (by decide) (by intro q hq; simp only [List.mem_cons, List.not_mem_nil, or_false] at hq; rcases hq with rfl | rfl | rfl <;> simp) ea xx va'.out ?_ (fun k hk => setCell2_far k hk) (by rw [setCell_size, setCell_size]))
    refine (blk_set (blk_set hbx 0 _) 1 _).trans ?_
    rw [yx'.out]
    rfl
  refine DetJ.is (o := { dst := some 21, op := Op.assign (Operand.tmp 134), type := 4, pos := "law.go:148", after := #[{ on := 8, ground := Ground.data }, { on := 10, ground := Ground.chain }, { on := 0, ground := Ground.phase }, { on := 1, ground := Ground.phase }, { on := 2, ground := Ground.phase }, { on := 3, ground := Ground.phase }, { on := 4, ground := Ground.phase }, { on := 5, ground := Ground.phase }, { on := 6, ground := Ground.phase }, { on := 7, ground := Ground.phase }, { on := 8, ground := Ground.phase }, { on := 9, ground := Ground.phase }, { on := 10, ground := Ground.phase }], guard := none }) (u := ?ux47) (fun _ _ _ => trivial) [5, 6, 7, 9, 10] hJo rfl (by decide) (by decide) (fun T w' hb hd hB K hK => ?sx47) ?rx47
  case sx47 =>
    have e134 := hd 8 134 _ (by decide) (by kernel_rfl) rfl rfl
    replace e134 : T.getD 134 undef = _ := e134
    rw [if_pos (wanted_none _ rfl)]
    clear hd hB
    go_simp
    exact hK _ (Below.refl _ _)
  refine DetJ.done [some 127, some 128, some 129, some 130, some 131, some 132, some 126, some 133, some 134, some 20, none, some 21] (by kernel_rfl) rfl rfl ?_
  intro v d w' hb hv hall hj
  obtain ⟨g, A', c', h1, h2, h3, h4, h5⟩ := RetJ.box hj (x := r) (kd := k30) (by simp; rfl) (hall 9 (by decide)) (hall 10 (by decide)) (hall 7 (by decide))
  exact hK v w' g A' c' hb (hv 11 _ (by decide) rfl) h1 h2 h3 h4 (Kd.F_mono h5 (fun k hk => hk.2))
set_option maxHeartbeats 4000000 in
set_option maxRecDepth 100000 in
theorem TermPuts_r19 {id : Nat} {a : Act} {w : World} {Q : Exit → Act → World → Prop} {i : Int} {ga m cl lq cq : Nat} {xf xl : Value} {r : S30} {b : Bool} {ad : Addr} {Aq : Option Addr}
    (hr : regionOk #[{ dst := some 136, op := Op.load 30 (Operand.tmp 13), type := 30, pos := "law.go:149", after := #[], guard := none }, { dst := some 137, op := Op.move (Operand.tmp 9), type := 32, pos := "law.go:149", after := #[], guard := none }, { dst := some 138, op := Op.move (Operand.tmp 19), type := 3, pos := "law.go:149", after := #[], guard := none }, { dst := some 139, op := Op.indexAddr 32 (Operand.tmp 137) (Operand.tmp 138), type := 0, pos := "law.go:149", after := #[{ on := 1, ground := Ground.data }, { on := 2, ground := Ground.data }], guard := none }, { dst := some 140, op := Op.load 25 (Operand.tmp 139), type := 25, pos := "law.go:149", after := #[{ on := 3, ground := Ground.data }], guard := none }, { dst := some 141, op := Op.call { callee := Callee.value (Operand.func 27), args := #[Operand.tmp 136, Operand.tmp 140], argTypes := #[30, 25] }, type := 37, pos := "law.go:149", after := #[{ on := 0, ground := Ground.data }, { on := 4, ground := Ground.data }], guard := none }, { dst := some 135, op := Op.move (Operand.tmp 141), type := 37, pos := "law.go:149", after := #[{ on := 5, ground := Ground.data }], guard := none }, { dst := some 142, op := Op.extract (Operand.tmp 135) 0, type := 30, pos := "law.go:149", after := #[{ on := 6, ground := Ground.data }], guard := none }, { dst := some 143, op := Op.extract (Operand.tmp 135) 1, type := 4, pos := "law.go:149", after := #[{ on := 6, ground := Ground.data }, { on := 10, ground := Ground.gcOnly Departure.lateStores }], guard := none }, { dst := some 22, op := Op.alloc 30, type := 0, pos := "law.go:149", after := #[], guard := none }, { dst := none, op := Op.store 30 (Operand.tmp 22) (Operand.tmp 142), type := 0, pos := "law.go:149", after := #[{ on := 9, ground := Ground.data }, { on := 7, ground := Ground.data }, { on := 5, ground := Ground.chain }, { on := 0, ground := Ground.phase }, { on := 1, ground := Ground.phase }, { on := 2, ground := Ground.phase }, { on := 3, ground := Ground.phase }, { on := 4, ground := Ground.phase }, { on := 5, ground := Ground.phase }, { on := 6, ground := Ground.phase }, { on := 7, ground := Ground.phase }, { on := 8, ground := Ground.textOnly Departure.lateStores }, { on := 9, ground := Ground.phase }], guard := none }, { dst := some 23, op := Op.assign (Operand.tmp 143), type := 4, pos := "law.go:149", after := #[{ on := 8, ground := Ground.data }, { on := 10, ground := Ground.chain }, { on := 0, ground := Ground.phase }, { on := 1, ground := Ground.phase }, { on := 2, ground := Ground.phase }, { on := 3, ground := Ground.phase }, { on := 4, ground := Ground.phase }, { on := 5, ground := Ground.phase }, { on := 6, ground := Ground.phase }, { on := 7, ground := Ground.phase }, { on := 8, ground := Ground.phase }, { on := 9, ground := Ground.phase }, { on := 10, ground := Ground.phase }], guard := none }] a.tmps.size = true)
    (hT9 : a.tmps.getD 9 undef = .slice (some ad) m cl)
    (hT19 : a.tmps.getD 19 undef = .int .i64 i)
    (hT13 : a.tmps.getD 13 undef = .pointer (some ⟨ga, 0, none⟩)) (hX13 : w.heap[ga]? = some (.cells #[xf, xl] 30 (0, 0)))
    (hi : 0 ≤ i ∧ i < m) (hc0 : w.cell? (ad.add i.toNat) = some (.slice Aq lq cq))
    (hF : ∀ w1, Below w.heap.size w w1 → Calls Try.prog 27 #[.agg #[xf, xl], .slice Aq lq cq] w1 fun e w2 => ∃ A' c', e = .returned (.tuple #[.agg #[.int .i64 r.f0, .slice A' r.f1.length c'], .bool b]) ∧ r.f1.length ≤ c' ∧ Kd.F k30 w2 (fun k => k < w.heap.size ∨ w1.heap.size ≤ k) A' r.f1.length r.f1 ∧ Below w1.heap.size w1 w2)
    (hK : ∀ v w' g A' c', Below w.heap.size w w' → v 11 = .bool b → v 9 = .pointer (some ⟨g, 0, none⟩) → w.heap.size ≤ g → w'.heap[g]? = some (.cells #[.int .i64 r.f0, .slice A' r.f1.length c'] 30 (0, 0)) → r.f1.length ≤ c' → Kd.F k30 w' (fun k => k ≠ g) A' r.f1.length r.f1 → Q .normal { tmps := layL [some 136, some 137, some 138, some 139, some 140, some 141, some 135, some 142, some 143, some 22, none, some 23] 0 v a.tmps, defers := a.defers } w') :
    (Code.region id #[{ dst := some 136, op := Op.load 30 (Operand.tmp 13), type := 30, pos := "law.go:149", after := #[], guard := none }, { dst := some 137, op := Op.move (Operand.tmp 9), type := 32, pos := "law.go:149", after := #[], guard := none }, { dst := some 138, op := Op.move (Operand.tmp 19), type := 3, pos := "law.go:149", after := #[], guard := none }, { dst := some 139, op := Op.indexAddr 32 (Operand.tmp 137) (Operand.tmp 138), type := 0, pos := "law.go:149", after := #[{ on := 1, ground := Ground.data }, { on := 2, ground := Ground.data }], guard := none }, { dst := some 140, op := Op.load 25 (Operand.tmp 139), type := 25, pos := "law.go:149", after := #[{ on := 3, ground := Ground.data }], guard := none }, { dst := some 141, op := Op.call { callee := Callee.value (Operand.func 27), args := #[Operand.tmp 136, Operand.tmp 140], argTypes := #[30, 25] }, type := 37, pos := "law.go:149", after := #[{ on := 0, ground := Ground.data }, { on := 4, ground := Ground.data }], guard := none }, { dst := some 135, op := Op.move (Operand.tmp 141), type := 37, pos := "law.go:149", after := #[{ on := 5, ground := Ground.data }], guard := none }, { dst := some 142, op := Op.extract (Operand.tmp 135) 0, type := 30, pos := "law.go:149", after := #[{ on := 6, ground := Ground.data }], guard := none }, { dst := some 143, op := Op.extract (Operand.tmp 135) 1, type := 4, pos := "law.go:149", after := #[{ on := 6, ground := Ground.data }, { on := 10, ground := Ground.gcOnly Departure.lateStores }], guard := none }, { dst := some 22, op := Op.alloc 30, type := 0, pos := "law.go:149", after := #[], guard := none }, { dst := none, op := Op.store 30 (Operand.tmp 22) (Operand.tmp 142), type := 0, pos := "law.go:149", after := #[{ on := 9, ground := Ground.data }, { on := 7, ground := Ground.data }, { on := 5, ground := Ground.chain }, { on := 0, ground := Ground.phase }, { on := 1, ground := Ground.phase }, { on := 2, ground := Ground.phase }, { on := 3, ground := Ground.phase }, { on := 4, ground := Ground.phase }, { on := 5, ground := Ground.phase }, { on := 6, ground := Ground.phase }, { on := 7, ground := Ground.phase }, { on := 8, ground := Ground.textOnly Departure.lateStores }, { on := 9, ground := Ground.phase }], guard := none }, { dst := some 23, op := Op.assign (Operand.tmp 143), type := 4, pos := "law.go:149", after := #[{ on := 8, ground := Ground.data }, { on := 10, ground := Ground.chain }, { on := 0, ground := Ground.phase }, { on := 1, ground := Ground.phase }, { on := 2, ground := Ground.phase }, { on := 3, ground := Ground.phase }, { on := 4, ground := Ground.phase }, { on := 5, ground := Ground.phase }, { on := 6, ground := Ground.phase }, { on := 7, ground := Ground.phase }, { on := 8, ground := Ground.phase }, { on := 9, ground := Ground.phase }, { on := 10, ground := Ground.phase }], guard := none }] true).wp Try.prog Q a w := by
  have hmx : Try.prog.follows .mixedOrders = true := by kernel_rfl
  have hJo : ∀ i, i ∉ [5, 6, 7, 9, 10] → ∀ v d (w1 w2 : World) u, (RetJ w.heap.size 30 [(5, TupF k30 r b (fun _ => True)), (6, TupF k30 r b (fun _ => True)), (7, TermF k30 r (fun _ => True))] 9 10 7) v d w1 → d i = false → Below w1.heap.size w1 w2 → (RetJ w.heap.size 30 [(5, TupF k30 r b (fun _ => True)), (6, TupF k30 r b (fun _ => True)), (7, TermF k30 r (fun _ => True))] 9 10 7) (upd v i u) (upd d i true) w2 := fun i hi v d w1 w2 u h hd hb => RetJ.val h hd (fun e => hi (by simp [← e])) (fun e => hi (by simp [← e])) hb (fun q hq e => absurd (by simp only [List.mem_cons, List.not_mem_nil, or_false] at hq; rcases hq with rfl | rfl | rfl <;> simp [← e]) hi)
  refine region_detJ (fun _ _ => True) (RetJ w.heap.size 30 [(5, TupF k30 r b (fun _ => True)), (6, TupF k30 r b (fun _ => True)), (7, TermF k30 r (fun _ => True))] 9 10 7) 12 (trivial) (fun v => RetJ.start w.drew (Nat.le_refl w.heap.size) v) hmx hr rfl ?_
  refine DetJ.is (o := { dst := some 136, op := Op.load 30 (Operand.tmp 13), type := 30, pos := "law.go:149", after := #[], guard := none }) (u := ?ux48) (fun _ _ _ => trivial) [5, 6, 7, 9, 10] hJo rfl (by decide) (by decide) (fun T w' hb hd hB K hK => ?sx48) ?rx48
  case sx48 =>
    have e13 := (hB 13 (by kernel_rfl)).trans hT13
    have q13_0 : w'.cell? ⟨ga, 0, none⟩ = some (xf) := (blk_cell (blk_below hX13 hb) 0).trans rfl
    have q13_1 : w'.cell? ⟨ga, 1, none⟩ = some (xl) := (blk_cell (blk_below hX13 hb) 1).trans rfl
    rw [if_pos (wanted_none _ rfl)]
    clear hd hB
    go_simp
    exact hK _ (Below.refl _ _)
  refine DetJ.is (o := { dst := some 137, op := Op.move (Operand.tmp 9), type := 32, pos := "law.go:149", after := #[], guard := none }) (u := ?ux49) (fun _ _ _ => trivial) [5, 6, 7, 9, 10] hJo rfl (by decide) (by decide) (fun T w' hb hd hB K hK => ?sx49) ?rx49
  case sx49 =>
    have e9 := (hB 9 (by kernel_rfl)).trans hT9
    rw [if_pos (wanted_none _ rfl)]
    clear hd hB
    go_simp
    exact hK _ (Below.refl _ _)
  refine DetJ.is (o := { dst := some 138, op := Op.move (Operand.tmp 19), type := 3, pos := "law.go:149", after := #[], guard := none }) (u := ?ux50) (fun _ _ _ => trivial) [5, 6, 7, 9, 10] hJo rfl (by decide) (by decide) (fun T w' hb hd hB K hK => ?sx50) ?rx50
  case sx50 =>
    have e19 := (hB 19 (by kernel_rfl)).trans hT19
    rw [if_pos (wanted_none _ rfl)]
    clear hd hB
    go_simp
    exact hK _ (Below.refl _ _)
  refine DetJ.is (o := { dst := some 139, op := Op.indexAddr 32 (Operand.tmp 137) (Operand.tmp 138), type := 0, pos := "law.go:149", after := #[{ on := 1, ground := Ground.data }, { on := 2, ground := Ground.data }], guard := none }) (u := .pointer (some (ad.add i.toNat))) (fun _ _ _ => trivial) [5, 6, 7, 9, 10] hJo rfl (by decide) (by decide) (fun T w' hb hd hB K hK => ?sx51) ?rx51
  case sx51 =>
    have e137 := hd 1 137 _ (by decide) (by kernel_rfl) rfl rfl
    replace e137 : T.getD 137 undef = _ := e137
    have e138 := hd 2 138 _ (by decide) (by kernel_rfl) rfl rfl
    replace e138 : T.getD 138 undef = _ := e138
    rw [if_pos (wanted_none _ rfl)]
    have hi0 := hi.1
    have hi1 := hi.2
    clear hd hB
    go_simp
    exact hK _ (Below.refl _ _)
  refine DetJ.is (o := { dst := some 140, op := Op.load 25 (Operand.tmp 139), type := 25, pos := "law.go:149", after := #[{ on := 3, ground := Ground.data }], guard := none }) (u := ?ux52) (fun _ _ _ => trivial) [5, 6, 7, 9, 10] hJo rfl (by decide) (by decide) (fun T w' hb hd hB K hK => ?sx52) ?rx52
  case sx52 =>
    have e139 := hd 3 139 _ (by decide) (by kernel_rfl) rfl rfl
    replace e139 : T.getD 139 undef = _ := e139
    rw [if_pos (wanted_none _ rfl)]
    have hc0' := (hb.cell (cell_lt' hc0)).trans hc0
    clear hd hB
    go_simp
    exact hK _ (Below.refl _ _)
  refine DetJ.cons (o := { dst := some 141, op := Op.call { callee := Callee.value (Operand.func 27), args := #[Operand.tmp 136, Operand.tmp 140], argTypes := #[30, 25] }, type := 37, pos := "law.go:149", after := #[{ on := 0, ground := Ground.data }, { on := 4, ground := Ground.data }], guard := none }) (fun _ _ => True) rfl (by decide) (fun _ _ _ _ _ => trivial) (fun v d T w' hb hj hd0 hd hdd hB K hK => ?sx53) ?rx53
  case sx53 =>
    have e136 := hd 0 136 _ (by decide) (by kernel_rfl) rfl rfl
    replace e136 : T.getD 136 undef = _ := e136
    have e140 := hd 4 140 _ (by decide) (by kernel_rfl) rfl rfl
    replace e140 : T.getD 140 undef = _ := e140
    rw [if_pos (wanted_none _ rfl)]
    have hcl := hF w' hb
    clear hd hdd hB
    go_simp
    go_at_call 27
    refine hcl.mono ?_
    rintro e w2 ⟨A', c', rfl, hl', hF', hb'⟩
    have hfp : (TupF k30 r b (fun _ => True)).p (fun k => okF 9 v d k ∨ w'.heap.size ≤ k) (.tuple #[.agg #[.int .i64 r.f0, .slice A' r.f1.length c'], .bool b]) w2 := ⟨_, _, rfl, hl', Kd.F_mono hF' (fun k hk => ⟨hk.elim (fun h => .inl (RetJ.old hj h)) .inr, trivial⟩)⟩
    exact hK _ _ trivial (hb.trans (hb'.mono hb.size)) trivial (RetJ.val hj hd0 (by decide) (by decide) hb' (fun q hq e => by simp only [List.mem_cons, List.not_mem_nil, or_false] at hq; rcases hq with rfl | rfl | rfl <;> first | exact hfp | exact absurd e (by simp)))
  refine DetJ.cons (o := { dst := some 135, op := Op.move (Operand.tmp 141), type := 37, pos := "law.go:149", after := #[{ on := 5, ground := Ground.data }], guard := none }) (fun _ _ => True) rfl (by decide) (fun _ _ _ _ _ => trivial) (fun v d T w' hb hj hd0 hd hdd hB K hK => ?sx54) ?rx54
  case sx54 =>
    have e141 := (hdd 5 (by kernel_rfl)).2 141 rfl
    rw [if_pos (wanted_none _ rfl)]
    have xq := (hdd 5 (by kernel_rfl)).1
    obtain ⟨Aq, cq, yq, hlq, hFq⟩ := hj.2.1 (5, TupF k30 r b (fun _ => True)) (by simp) xq
    replace e141 := e141.trans yq
    clear hd hdd hB
    go_simp
    exact hK _ _ trivial hb trivial (RetJ.val hj hd0 (by decide) (by decide) (Below.refl _ _) (fun q hq e => by simp only [List.mem_cons, List.not_mem_nil, or_false] at hq; rcases hq with rfl | rfl | rfl <;> first | exact ⟨_, _, rfl, hlq, Kd.F_mono hFq (fun k hk => ⟨.inl hk.1, trivial⟩)⟩ | exact absurd e (by simp)))
  refine DetJ.cons (o := { dst := some 142, op := Op.extract (Operand.tmp 135) 0, type := 30, pos := "law.go:149", after := #[{ on := 6, ground := Ground.data }], guard := none }) (fun _ _ => True) rfl (by decide) (fun _ _ _ _ _ => trivial) (fun v d T w' hb hj hd0 hd hdd hB K hK => ?sx55) ?rx55
  case sx55 =>
    have e135 := (hdd 6 (by kernel_rfl)).2 135 rfl
    rw [if_pos (wanted_none _ rfl)]
    have xq := (hdd 6 (by kernel_rfl)).1
    obtain ⟨Aq, cq, yq, hlq, hFq⟩ := hj.2.1 (6, TupF k30 r b (fun _ => True)) (by simp) xq
    replace e135 := e135.trans yq
    clear hd hdd hB
    go_simp
    exact hK _ _ trivial hb trivial (RetJ.val hj hd0 (by decide) (by decide) (Below.refl _ _) (fun q hq e => by simp only [List.mem_cons, List.not_mem_nil, or_false] at hq; rcases hq with rfl | rfl | rfl <;> first | exact ⟨_, _, rfl, hlq, Kd.F_mono hFq (fun k hk => ⟨.inl hk.1, trivial⟩)⟩ | exact absurd e (by simp)))
  refine DetJ.cons (o := { dst := some 143, op := Op.extract (Operand.tmp 135) 1, type := 4, pos := "law.go:149", after := #[{ on := 6, ground := Ground.data }, { on := 10, ground := Ground.gcOnly Departure.lateStores }], guard := none }) (Told.is (.bool b)) rfl (by decide) (fun _ _ _ h _ => h) (fun v d T w' hb hj hd0 hd hdd hB K hK => ?sx56) ?rx56
  case sx56 =>
    have e135 := (hdd 6 (by kernel_rfl)).2 135 rfl
    rw [if_pos (wanted_none _ rfl)]
    have xq := (hdd 6 (by kernel_rfl)).1
    obtain ⟨Aq, cq, yq, hlq, hFq⟩ := hj.2.1 (6, TupF k30 r b (fun _ => True)) (by simp) xq
    replace e135 := e135.trans yq
    clear hd hdd hB
    go_simp
    exact hK _ _ trivial hb rfl (RetJ.val hj hd0 (by decide) (by decide) (Below.refl _ _) (fun q hq e => by simp only [List.mem_cons, List.not_mem_nil, or_false] at hq; rcases hq with rfl | rfl | rfl <;> first | exact absurd e (by simp) | exact absurd e (by simp)))
  refine DetJ.cons (o := { dst := some 22, op := Op.alloc 30, type := 0, pos := "law.go:149", after := #[], guard := none }) (fun _ _ => True) rfl (by decide) (fun _ _ _ _ _ => trivial) (fun v d T w' hb hj hd0 hd hdd hB K hK => ?sx57) ?rx57
  case sx57 =>
    rw [if_pos (wanted_none _ rfl)]
    clear hd hdd hB
    go_simp
    exact hK _ _ trivial (below_alloc hb _) trivial (RetJ.alloc hj hd0 (by decide) (by decide) (by intro q hq; simp only [List.mem_cons, List.not_mem_nil, or_false] at hq; rcases hq with rfl | rfl | rfl <;> simp))
  refine DetJ.cons (o := { dst := none, op := Op.store 30 (Operand.tmp 22) (Operand.tmp 142), type := 0, pos := "law.go:149", after := #[{ on := 9, ground := Ground.data }, { on := 7, ground := Ground.data }, { on := 5, ground := Ground.chain }, { on := 0, ground := Ground.phase }, { on := 1, ground := Ground.phase }, { on := 2, ground := Ground.phase }, { on := 3, ground := Ground.phase }, { on := 4, ground := Ground.phase }, { on := 5, ground := Ground.phase }, { on := 6, ground := Ground.phase }, { on := 7, ground := Ground.phase }, { on := 8, ground := Ground.textOnly Departure.lateStores }, { on := 9, ground := Ground.phase }], guard := none }) (fun _ _ => True) rfl (by decide) (fun _ _ _ _ _ => trivial) (fun v d T w' hb hj hd0 hd hdd hB K hK => ?sx58) ?rx58
  case sx58 =>
    have e22 := (hdd 9 (by kernel_rfl)).2 22 rfl
    have e142 := (hdd 7 (by kernel_rfl)).2 142 rfl
    rw [if_pos (wanted_none _ rfl)]
    have ea := (hdd 9 (by kernel_rfl)).1
    have xx := (hdd 7 (by kernel_rfl)).1
    obtain ⟨Ax, cx, yx, hlx, hFx⟩ := hj.2.1 (7, TermF k30 r (fun _ => True)) (by simp) xx
    have vx := (hdd 7 (by kernel_rfl)).2 142 rfl
    obtain ⟨g, va, hge, hlt, hbx⟩ := hj.2.2.1 ea
    rw [if_neg (by rw [hd0]; decide)] at hbx
    replace e22 := e22.trans va
    replace e142 := e142.trans yx
    have q0 : w'.cell? ⟨g, 0, none⟩ = some (.int .i64 0) := (blk_cell hbx 0).trans rfl
    have q1 : w'.cell? ⟨g, 1, none⟩ = some (.slice none 0 0) := (blk_cell hbx 1).trans rfl
    have z0 := blk_frozen hbx 0
    have z1 := blk_frozen hbx 1
    have hd0' := Aside0.mk hd0
    have yx' := Aside0.mk yx
    have va' := Aside0.mk va
    clear hd hdd hB vx hd0 yx va
    go_simp
    refine hK undef _ trivial ((hb.setCell hge _).setCell hge _) trivial (RetJ.store hj hd0'.out (by decide) (by decide) (by intro q hq; simp only [List.mem_cons, List.not_mem_nil, or_false] at hq; rcases hq with rfl | rfl | rfl <;> simp) ea xx va'.out ?_ (fun k hk => setCell2_far k hk) (by rw [setCell_size, setCell_size]))
    refine (blk_set (blk_set hbx 0 _) 1 _).trans ?_
    rw [yx'.out]
    rfl
  refine DetJ.is (o := { dst := some 23, op := Op.assign (Operand.tmp 143), type := 4, pos := "law.go:149", after := #[{ on := 8, ground := Ground.data }, { on := 10, ground := Ground.chain }, { on := 0, ground := Ground.phase }, { on := 1, ground := Ground.phase }, { on := 2, ground := Ground.phase }, { on := 3, ground := Ground.phase }, { on := 4, ground := Ground.phase }, { on := 5, ground := Ground.phase }, { on := 6, ground := Ground.phase }, { on := 7, ground := Ground.phase }, { on := 8, ground := Ground.phase }, { on := 9, ground := Ground.phase }, { on := 10, ground := Ground.phase }], guard := none }) (u := ?ux59) (fun _ _ _ => trivial) [5, 6, 7, 9, 10] hJo rfl (by decide) (by decide) (fun T w' hb hd hB K hK => ?sx59) ?rx59
  case sx59 =>
    have e143 := hd 8 143 _ (by decide) (by kernel_rfl) rfl rfl
    replace e143 : T.getD 143 undef = _ := e143
    rw [if_pos (wanted_none _ rfl)]
    clear hd hB
    go_simp
    exact hK _ (Below.refl _ _)
  refine DetJ.done [some 136, some 137, some 138, some 139, some 140, some 141, some 135, some 142, some 143, some 22, none, some 23] (by kernel_rfl) rfl rfl ?_
  intro v d w' hb hv hall hj
  obtain ⟨g, A', c', h1, h2, h3, h4, h5⟩ := RetJ.box hj (x := r) (kd := k30) (by simp; rfl) (hall 9 (by decide)) (hall 10 (by decide)) (hall 7 (by decide))
  exact hK v w' g A' c' hb (hv 11 _ (by decide) rfl) h1 h2 h3 h4 (Kd.F_mono h5 (fun k hk => hk.2))
end Go.Proofs.Ytpfddihcikiofaa.P
end

section
namespace Go.Proofs.Ytpfddihcikiofaa.P
open Go.RowKit Go.Proofs.YtpfddihcikiofaaW.PrintWords Go.Proofs.YtpfddihcikiofaaW.PrintLast Go.Proofs.YtpfddihcikiofaaW.PrintMore
set_option linter.unusedVariables false
set_option linter.unusedSimpArgs false
set_option maxHeartbeats 8000000 in
set_option maxRecDepth 100000 in
theorem TermPuts_walk (a b : S24) (n : Int) (A : Option Addr) (c : Nat) (A' : Option Addr) (c' : Nat) (w : World) (hn : 0 ≤ n ∧ n ≤ 255)
    (hA : k24.C w A a.f1.length a.f1) (hc : a.f1.length ≤ c) (hA' : k24.C w A' b.f1.length b.f1) (hc' : b.f1.length ≤ c') :
    Calls Try.prog 7 #[.agg #[.int .i64 a.f0, .slice A a.f1.length c], .agg #[.int .i64 b.f0, .slice A' b.f1.length c'], .int .u8 n] w fun e w' => e = .returned (.bool true) ∧ Below w.heap.size w w' := by
  have hmx : Try.prog.follows .mixedOrders = true := by kernel_rfl
  obtain ⟨ok, hFine, hok⟩ := Fine_spec [a, b] (by simp)
  obtain ⟨kF, hF⟩ := hFine.rounds
  have hbA : Aside0 (∀ w1, Below w.heap.size w w1 → k24.C w1 A a.f1.length a.f1) := ⟨fun w1 h => Kd.C_below hA h⟩
  have hbB : Aside0 (∀ w1, Below w.heap.size w w1 → k24.C w1 A' b.f1.length b.f1) := ⟨fun w1 h => Kd.C_below hA' h⟩
  clear hA hA' hFine
  go_enter Try.func7, Try.ntmps7
  cases ok with
  | false =>
    go_wp2_with (first | (go_at_call 20; refine (soriteslaw06_alive.calls true _ alive06).mono ?_; rintro e w1 ⟨rfl, hb1⟩; have hs1 := hb1.size; simp only [World.size_alloc] at hs1; have hB1 : Below w.heap.size w w1 := (below_alloc (below_alloc (Below.refl _ _) _) _).trans (hb1.mono (by simp; omega)); have hg0 : w1.heap[w.heap.size]? = some (.cells #[.int .i64 a.f0, .slice A a.f1.length c] 24 (0, 0)) := blk_below (blk_alloc (heap_alloc_new _ _) _) hb1; have hg1 : w1.heap[w.heap.size + 1]? = some (.cells #[.int .i64 b.f0, .slice A' b.f1.length c'] 24 (0, 0)) := blk_below (by have := heap_alloc_new (w.alloc (.cells #[.int .i64 a.f0, .slice A a.f1.length c] 24)) (.cells #[.int .i64 b.f0, .slice A' b.f1.length c'] 24); rw [World.size_alloc] at this; exact this) hb1; have hx0 : w1.cell? ⟨w.heap.size, 0, none⟩ = some (.int .i64 a.f0) := (blk_cell hg0 0).trans rfl; have hx1 : w1.cell? ⟨w.heap.size, 1, none⟩ = some (.slice A a.f1.length c) := (blk_cell hg0 1).trans rfl; have hy0 : w1.cell? ⟨w.heap.size + 1, 0, none⟩ = some (.int .i64 b.f0) := (blk_cell hg1 0).trans rfl; have hy1 : w1.cell? ⟨w.heap.size + 1, 1, none⟩ = some (.slice A' b.f1.length c') := (blk_cell hg1 1).trans rfl) | (go_at_call 21; refine (soriteslaw06_Fine.calls kF _ 2 [a, b] _ _ (C2 k24 rfl (K24 (hbA.out _ (below_alloc hB1 _)) hc) (K24 (hbB.out _ (below_alloc hB1 _)) hc') (heap_alloc_new _ _)) (by simp) hF).mono ?_; rintro e w2 ⟨rfl, hb2⟩; have hB2 : Below w.heap.size w w2 := (below_alloc hB1 _).trans (hb2.mono (by simp; omega)); have hh0 := blk_below (blk_alloc hg0 _) hb2; have hh1 := blk_below (blk_alloc hg1 _) hb2))
    go_ret
    exact ⟨rfl, hB2⟩
  | true =>
    go_wp2_with (first | (go_at_call 20; refine (soriteslaw06_alive.calls true _ alive06).mono ?_; rintro e w1 ⟨rfl, hb1⟩; have hs1 := hb1.size; simp only [World.size_alloc] at hs1; have hB1 : Below w.heap.size w w1 := (below_alloc (below_alloc (Below.refl _ _) _) _).trans (hb1.mono (by simp; omega)); have hg0 : w1.heap[w.heap.size]? = some (.cells #[.int .i64 a.f0, .slice A a.f1.length c] 24 (0, 0)) := blk_below (blk_alloc (heap_alloc_new _ _) _) hb1; have hg1 : w1.heap[w.heap.size + 1]? = some (.cells #[.int .i64 b.f0, .slice A' b.f1.length c'] 24 (0, 0)) := blk_below (by have := heap_alloc_new (w.alloc (.cells #[.int .i64 a.f0, .slice A a.f1.length c] 24)) (.cells #[.int .i64 b.f0, .slice A' b.f1.length c'] 24); rw [World.size_alloc] at this; exact this) hb1; have hx0 : w1.cell? ⟨w.heap.size, 0, none⟩ = some (.int .i64 a.f0) := (blk_cell hg0 0).trans rfl; have hx1 : w1.cell? ⟨w.heap.size, 1, none⟩ = some (.slice A a.f1.length c) := (blk_cell hg0 1).trans rfl; have hy0 : w1.cell? ⟨w.heap.size + 1, 0, none⟩ = some (.int .i64 b.f0) := (blk_cell hg1 0).trans rfl; have hy1 : w1.cell? ⟨w.heap.size + 1, 1, none⟩ = some (.slice A' b.f1.length c') := (blk_cell hg1 1).trans rfl) | (go_at_call 21; refine (soriteslaw06_Fine.calls kF _ 2 [a, b] _ _ (C2 k24 rfl (K24 (hbA.out _ (below_alloc hB1 _)) hc) (K24 (hbB.out _ (below_alloc hB1 _)) hc') (heap_alloc_new _ _)) (by simp) hF).mono ?_; rintro e w2 ⟨rfl, hb2⟩; have hB2 : Below w.heap.size w w2 := (below_alloc hB1 _).trans (hb2.mono (by simp; omega)); have hh0 := blk_below (blk_alloc hg0 _) hb2; have hh1 := blk_below (blk_alloc hg1 _) hb2))
    have hoka := hok trivial a (by simp)
    have hokb := hok trivial b (by simp)
    refine of_two (x0 := a) (x1 := b) (g0 := w.heap.size) (g1 := w.heap.size + 1) (by kernel_rfl) (by kernel_rfl) rfl hh0 (hbA.out _ hB2) hc hoka.1 rfl hh1 (hbB.out _ hB2) hc' hokb.1 ?_
    intro w3 X0 q0 h0 X1 q1 h1 hb3 hge0 hx0' hq0 hC0 hge1 hx1' hq1 hC1
    have HB3 := Aside0.mk (hB2.trans (hb3.mono hB2.size))
    have HC0 := Aside0.mk hC0
    have HC1 := Aside0.mk hC1
    have HX0 := Aside0.mk hx0'
    have HX1 := Aside0.mk hx1'
    have hna := Nat.le_trans (nodes_le a) hoka.2
    have hnb := Nat.le_trans (nodes_le b) hokb.2
    have hfa := fit_of_ok a hoka.1 (by omega)
    have hfb := fit_of_ok b hokb.1 (by omega)
    have hpl := Places_is (t := a) (by omega)
    obtain ⟨ls, hls⟩ : ∃ ls, ls = (flatP [] a).map Prod.fst := ⟨_, rfl⟩
    rw [← hls] at hpl
    have hll : ls.length = (nodes a).length := by rw [hls, List.length_map, flatP_len]
    have hlp : 1 ≤ ls.length := by have := nodes_pos a; omega
    have hlm : ls.length ≤ 60 := by omega
    have hall : ∀ k, k < ls.length → ∃ s1, atT (ls.getD k []) a = some s1 ∧ (ls.getD k []).length ≤ 60 := by
      intro k hk
      have hm : ls.getD k [] ∈ (flatP [] a).map Prod.fst := by rw [← hls, List.getD_eq_getElem?_getD, List.getElem?_eq_getElem hk, Option.getD_some]; exact List.getElem_mem hk
      obtain ⟨e, he, e1⟩ := List.mem_map.1 hm
      obtain ⟨q', g1, g2⟩ := flatP_at [] a e he
      refine ⟨e.2, by rw [← e1, g1]; exact g2, ?_⟩
      have := at_len q' a e.2 g2
      rw [← e1, g1]
      simp only [List.nil_append]
      omega
    have hj0 : 0 ≤ n % (ls.length : Int) := Int.emod_nonneg _ (by omega)
    have hj1 : n % (ls.length : Int) < ls.length := Int.emod_lt_of_pos _ (by omega)
    obtain ⟨q, hq⟩ : ∃ q, q = ls.getD (n % (ls.length : Int)).toNat [] := ⟨_, rfl⟩
    obtain ⟨s, hs, hq60⟩ := hall (n % (ls.length : Int)).toNat (by omega)
    rw [← hq] at hs hq60
    have hfs := at_fit hs hfa
    have hsub := at_sub q a s hs
    obtain ⟨z, hz, hzl, hfz, ⟨g, hg, hgc⟩, ⟨bk, hbk, hbc⟩, hoth⟩ := puts_law (u := b) hs
    replace hfz := hfz hfa hfb (by omega)
    obtain ⟨kt, hat⟩ := (At_spec q [] a hfa (by simp; omega)).rounds
    obtain ⟨kt2, hat2⟩ := (At_spec q [] z hfz (by simp; omega)).rounds
    rw [hs] at hat
    rw [hg] at hat2
    have esg := Same_of g b
    rw [hgc] at esg
    have esk := Same_of bk a
    rw [hbc] at esk
    have z1 := Size_fit hfz
    have z2 := Size_fit hfa
    have z3 := Size_fit hfs
    have z4 := Size_fit hfb
    have FP := Aside0.mk (And.intro hpl (And.intro hls hll))
    have FF := Aside0.mk (And.intro hfa (And.intro hfb (And.intro hna hnb)))
    have FA := Aside0.mk (And.intro (show term_At.f kt a.f0 a.f1 q = some (s.f0, s.f1, true) from hat) (show term_At.f kt2 z.f0 z.f1 q = some (g.f0, g.f1, true) from hat2))
    have FZ := Aside0.mk (And.intro hz (And.intro hfz (And.intro hfs (And.intro hbk hzl))))
    have FE := Aside0.mk (And.intro esg (And.intro esk (And.intro z1 (And.intro z2 (And.intro z3 z4)))))
    have FO := Aside0.mk (And.intro hoth hall)
    have FQ := Aside0.mk hq
    have FQ60 := Aside0.mk hq60
    have FL := Aside0.mk hlp
    have hl0 : ((ls.length : Int) == 0) = false := by rw [beq_eq_false_iff_ne]; omega
    clear hfa hfb hpl hls hll hlp hall hq hs hq60 hfs hsub hz hzl hfz hg hgc hbk hbc hoth hat hat2 esg esk z1 z2 z3 z4 hoka hokb hok hna hnb hbA hbB hC0 hC1 hx0' hx1' hb3 hg0 hg1 hh0 hh1 hx0 hx1 hy0 hy1 hB1 hB2 hb1 hb2 hF hge0 hge1
    simp only [List.setIfInBounds_toArray, List.set_cons_zero, List.set_cons_succ]
    have k00 : w3.cell? ⟨h0, 0, none⟩ = some (.int .i64 a.f0) := (blk_cell HX0.out 0).trans rfl
    have k01 : w3.cell? ⟨h0, 1, none⟩ = some (.slice X0 a.f1.length q0) := (blk_cell HX0.out 1).trans rfl
    go_wp2_with (first | (go_at_call 30; have hput := Put_any q z s (fun _ => True) Az Aq As cz cq cs (w8.alloc (.cells #[.int .i64 g.f0, .slice Ag g.f1.length cg] 30)) FZ.out.2.1 FZ.out.2.2.1 (Kd.F_mono (F_old k30_heap HFz.out (below_alloc ((below_alloc (Below.refl _ _) (.cells #[.int .i64 z.f0, .slice Az z.f1.length cz] 30)).trans (HB8.out.mono (by simp))) (.cells #[.int .i64 g.f0, .slice Ag g.f1.length cg] 30))) (fun _ _ => trivial)) HLz.out (Kd.C_below HCq7.out (below_alloc ((below_alloc (Below.refl _ _) (.cells #[.int .i64 z.f0, .slice Az z.f1.length cz] 30)).trans (HB8.out.mono (by simp))) (.cells #[.int .i64 g.f0, .slice Ag g.f1.length cg] 30))) HLq.out (Kd.F_mono (F_old k30_heap HFs.out (below_alloc ((((below_alloc (Below.refl _ _) (.cells #[.int .i64 s.f0, .slice As s.f1.length cs] 30)).trans (HB7.out.mono (by simp))).trans ((below_alloc (Below.refl _ _) (.cells #[.int .i64 z.f0, .slice Az z.f1.length cz] 30) : Below w7.heap.size w7 _).mono (by have := HB7.out.size; simp at this; omega))).trans (HB8.out.mono (by have := HB7.out.size; simp at this ⊢; omega))) (.cells #[.int .i64 g.f0, .slice Ag g.f1.length cg] 30))) (fun _ _ => trivial)) HLs.out; rw [FZ.out.2.2.2.1] at hput; simp only [Option.getD_some, Option.isSome_some] at hput; refine hput.mono ?_; clear hput; rintro e w9 ⟨Ab, cb, rfl, hlb, hFb, hb9⟩; have HB9 := Aside0.mk hb9; have HFb := Aside0.mk (Kd.F_now hFb); have HLb := Aside0.mk hlb; clear hb9 hFb hlb) | (go_at_call 27; refine (term_At.calls kt2 z.f0 (fun _ => True) Az cz z.f1 Aq cq q g.f0 g.f1 true (w7.alloc (.cells #[.int .i64 z.f0, .slice Az z.f1.length cz] 30)) (Kd.V_mk HLz.out (Kd.F_mono (F_old k30_heap HFz.out (below_alloc (Below.refl _ _) _)) (fun _ _ => trivial))) (Kd.C_below HCq7.out (below_alloc (Below.refl _ _) _)) HLq.out FA.out.2).mono ?_; rintro e w8 ⟨v1, rfl, hV, hb8⟩; obtain ⟨Ag, cg, hv1, hlg, hFg⟩ := hV; subst hv1; have m0 : (w8.alloc (.cells #[.int .i64 g.f0, .slice Ag g.f1.length cg] 30)).cell? ⟨w7.heap.size, 0, none⟩ = some (.int .i64 z.f0) := (blk_cell (blk_alloc (blk_below (heap_alloc_new w7 (.cells #[.int .i64 z.f0, .slice Az z.f1.length cz] 30)) hb8) (.cells #[.int .i64 g.f0, .slice Ag g.f1.length cg] 30)) 0).trans rfl; have m1 : (w8.alloc (.cells #[.int .i64 g.f0, .slice Ag g.f1.length cg] 30)).cell? ⟨w7.heap.size, 1, none⟩ = some (.slice Az z.f1.length cz) := (blk_cell (blk_alloc (blk_below (heap_alloc_new w7 (.cells #[.int .i64 z.f0, .slice Az z.f1.length cz] 30)) hb8) (.cells #[.int .i64 g.f0, .slice Ag g.f1.length cg] 30)) 1).trans rfl; have mm0 : (w8.alloc (.cells #[.int .i64 g.f0, .slice Ag g.f1.length cg] 30)).cell? ⟨w6.heap.size, 0, none⟩ = some (.int .i64 s.f0) := (blk_cell (blk_alloc (blk_below (blk_alloc (blk_below (heap_alloc_new w6 (.cells #[.int .i64 s.f0, .slice As s.f1.length cs] 30)) HB7.out) (.cells #[.int .i64 z.f0, .slice Az z.f1.length cz] 30)) hb8) (.cells #[.int .i64 g.f0, .slice Ag g.f1.length cg] 30)) 0).trans rfl; have mm1 : (w8.alloc (.cells #[.int .i64 g.f0, .slice Ag g.f1.length cg] 30)).cell? ⟨w6.heap.size, 1, none⟩ = some (.slice As s.f1.length cs) := (blk_cell (blk_alloc (blk_below (blk_alloc (blk_below (heap_alloc_new w6 (.cells #[.int .i64 s.f0, .slice As s.f1.length cs] 30)) HB7.out) (.cells #[.int .i64 z.f0, .slice Az z.f1.length cz] 30)) hb8) (.cells #[.int .i64 g.f0, .slice Ag g.f1.length cg] 30)) 1).trans rfl; have HB8 := Aside0.mk hb8; have HFg := Aside0.mk (Kd.F_now hFg); have HLg := Aside0.mk hlg; clear hFg hlg hb8) | (go_at_call 30; have hput := Put_any q a b (fun _ => True) X0 Aq X1 q0 cq q1 (w6.alloc (.cells #[.int .i64 s.f0, .slice As s.f1.length cs] 30)) FF.out.1 FF.out.2.1 (Kd.F_mono (F_old k30_heap HC0.out (below_alloc HB6.out _)) (fun _ _ => trivial)) hq0 (Kd.C_below HCq6.out (below_alloc (Below.refl _ _) _)) HLq.out (Kd.F_mono (F_old k30_heap HC1.out (below_alloc HB6.out _)) (fun _ _ => trivial)) hq1; rw [FZ.out.1] at hput; simp only [Option.getD_some, Option.isSome_some] at hput; refine hput.mono ?_; clear hput; rintro e w7 ⟨Az, cz, rfl, hlz, hFz, hb7⟩; have HB7 := Aside0.mk hb7; have HFz := Aside0.mk (Kd.F_now hFz); have HLz := Aside0.mk hlz; have HCq7 := Aside0.mk (Kd.C_below (Kd.C_below HCq6.out (below_alloc (Below.refl _ _) (.cells #[.int .i64 s.f0, .slice As s.f1.length cs] 30))) hb7); clear hb7 hFz hlz) | (go_at_call 27; refine (term_At.calls kt a.f0 (fun _ => True) X0 q0 a.f1 Aq cq q s.f0 s.f1 true w5 (Kd.V_mk hq0 (Kd.F_mono (F_old k30_heap HC0.out HB5.out) (fun _ _ => trivial))) HCq.out HLq.out FA.out.1).mono ?_; rintro e w6 ⟨v1, rfl, hV, hb6⟩; obtain ⟨As, cs, hv1, hls, hFs⟩ := hV; subst hv1; have hb46 := HB5.out.trans (hb6.mono HB5.out.size); have w6d00 : (w6.alloc (.cells #[.int .i64 s.f0, .slice As s.f1.length cs] 30)).cell? ⟨h0, 0, none⟩ = some (.int .i64 a.f0) := (blk_cell (blk_alloc (blk_below HX0.out hb46) _) 0).trans rfl; have w6d01 : (w6.alloc (.cells #[.int .i64 s.f0, .slice As s.f1.length cs] 30)).cell? ⟨h0, 1, none⟩ = some (.slice X0 a.f1.length q0) := (blk_cell (blk_alloc (blk_below HX0.out hb46) _) 1).trans rfl; have w6d10 : (w6.alloc (.cells #[.int .i64 s.f0, .slice As s.f1.length cs] 30)).cell? ⟨h1, 0, none⟩ = some (.int .i64 b.f0) := (blk_cell (blk_alloc (blk_below HX1.out hb46) _) 0).trans rfl; have w6d11 : (w6.alloc (.cells #[.int .i64 s.f0, .slice As s.f1.length cs] 30)).cell? ⟨h1, 1, none⟩ = some (.slice X1 b.f1.length q1) := (blk_cell (blk_alloc (blk_below HX1.out hb46) _) 1).trans rfl; have HB6 := Aside0.mk hb46; have HFs := Aside0.mk (Kd.F_now hFs); have HLs := Aside0.mk hls; have HCq6 := Aside0.mk (Kd.C_below HCq.out hb6); have HB56 := Aside0.mk hb6; clear hFs hls hb6 hb46) | (go_at_call 23; refine (term_Places.calls _ _ _ a.f1 ls w3 HC0.out hq0 FP.out.1).mono ?_; rintro e w5 ⟨v0, rfl, hR, hb5⟩; obtain ⟨Al, cl, hv0⟩ := Kd.R_slice hR; subst hv0; have HCL := Aside0.mk (Kd.R_reads' hR).2.2; obtain ⟨ad, cc, hAl, hcc0, hK, hcc⟩ := ReadsRow.get_ (Kd.R_reads' hR).2.2 [] (n % (ls.length : Int)) hj0 hj1; subst hAl; obtain ⟨Aq, cq, hce, hlq, hCq⟩ := hK; subst hce; rw [← FQ.out] at hcc hlq hCq; have hcell : w5.cell? (ad.add (n % (ls.length : Int)).toNat) = some (.slice Aq q.length cq) := (by have h9 := hcc 0 _ rfl; rw [show (Kd.slice 3 (Kd.int .i64)).sz = 1 from rfl, Nat.mul_one, Nat.add_zero] at h9; exact h9); have HCq := Aside0.mk hCq; have HLq := Aside0.mk hlq; have HB5 := Aside0.mk hb5; have w5c00 : w5.cell? ⟨h0, 0, none⟩ = some (.int .i64 a.f0) := (blk_cell (blk_below HX0.out hb5) 0).trans rfl; have w5c01 : w5.cell? ⟨h0, 1, none⟩ = some (.slice X0 a.f1.length q0) := (blk_cell (blk_below HX0.out hb5) 1).trans rfl; clear hcc hR hCq hlq hcc0 hb5))
    have c6 := below_alloc HB6.out (.cells #[.int .i64 s.f0, .slice As s.f1.length cs] 30)
    have c7 := below_alloc (c6.trans (HB7.out.mono c6.size)) (.cells #[.int .i64 z.f0, .slice Az z.f1.length cz] 30)
    have c8 := below_alloc (c7.trans (HB8.out.mono c7.size)) (.cells #[.int .i64 g.f0, .slice Ag g.f1.length cg] 30)
    have c10 := below_alloc (c8.trans (HB9.out.mono c8.size)) (.cells #[.int .i64 bk.f0, .slice Ab bk.f1.length cb] 30)
    have d6 := below_alloc (Below.refl w6.heap.size w6) (.cells #[.int .i64 s.f0, .slice As s.f1.length cs] 30)
    have d7 := below_alloc (d6.trans (HB7.out.mono d6.size)) (.cells #[.int .i64 z.f0, .slice Az z.f1.length cz] 30)
    have d8 := below_alloc (d7.trans (HB8.out.mono d7.size)) (.cells #[.int .i64 g.f0, .slice Ag g.f1.length cg] 30)
    have d10 := below_alloc (d8.trans (HB9.out.mono d8.size)) (.cells #[.int .i64 bk.f0, .slice Ab bk.f1.length cb] 30)
    have e7 := below_alloc (Below.refl w7.heap.size w7) (.cells #[.int .i64 z.f0, .slice Az z.f1.length cz] 30)
    have e8 := below_alloc (e7.trans (HB8.out.mono e7.size)) (.cells #[.int .i64 g.f0, .slice Ag g.f1.length cg] 30)
    have e10 := below_alloc (e8.trans (HB9.out.mono e8.size)) (.cells #[.int .i64 bk.f0, .slice Ab bk.f1.length cb] 30)
    have f8 := below_alloc (Below.refl w8.heap.size w8) (.cells #[.int .i64 g.f0, .slice Ag g.f1.length cg] 30)
    have f10 := below_alloc (f8.trans (HB9.out.mono f8.size)) (.cells #[.int .i64 bk.f0, .slice Ab bk.f1.length cb] 30)
    have j10 := below_alloc (Below.refl w9.heap.size w9) (.cells #[.int .i64 bk.f0, .slice Ab bk.f1.length cb] 30)
    have s7 := below_alloc HB7.out (.cells #[.int .i64 z.f0, .slice Az z.f1.length cz] 30)
    have s8 := below_alloc (s7.trans (HB8.out.mono s7.size)) (.cells #[.int .i64 g.f0, .slice Ag g.f1.length cg] 30)
    have s10 := below_alloc (s8.trans (HB9.out.mono s8.size)) (.cells #[.int .i64 bk.f0, .slice Ab bk.f1.length cb] 30)
    have t8 := below_alloc HB8.out (.cells #[.int .i64 g.f0, .slice Ag g.f1.length cg] 30)
    have t10 := below_alloc (t8.trans (HB9.out.mono t8.size)) (.cells #[.int .i64 bk.f0, .slice Ab bk.f1.length cb] 30)
    have u10 := below_alloc HB9.out (.cells #[.int .i64 bk.f0, .slice Ab bk.f1.length cb] 30)
    have v10 := heap_alloc_new w9 (.cells #[.int .i64 bk.f0, .slice Ab bk.f1.length cb] 30)
    obtain ⟨w10, hw10⟩ : ∃ w10, w10 = w9.alloc (.cells #[.int .i64 bk.f0, .slice Ab bk.f1.length cb] 30) := ⟨_, rfl⟩
    rw [← hw10] at c10 d10 e10 f10 j10 s10 t10 u10 v10 ⊢
    have g56 := HB56.out
    have hcl10 : Kd.C (Kd.slice 3 (Kd.int .i64)) w10 (some ad) ls.length ls := Kd.C_below (Kd.C_below HCL.out g56) d10
    have hcq10 := Kd.C_below HCq6.out d10
    have D0 := Kd.C_below HC0.out c10
    have D1 := Kd.C_below HC1.out c10
    have DS := Kd.C_below HFs.out d10
    have DZ := Kd.C_below HFz.out e10
    have DG := Kd.C_below HFg.out f10
    have DB := Kd.C_below HFb.out j10
    have Y0 := blk_below HX0.out c10
    have Y1 := blk_below HX1.out c10
    have YS := blk_below (heap_alloc_new w6 (.cells #[.int .i64 s.f0, .slice As s.f1.length cs] 30)) s10
    have YZ := blk_below (heap_alloc_new w7 (.cells #[.int .i64 z.f0, .slice Az z.f1.length cz] 30)) t10
    have YG := blk_below (heap_alloc_new w8 (.cells #[.int .i64 g.f0, .slice Ag g.f1.length cg] 30)) u10
    have HB10 := Aside0.mk c10
    clear hw10 hj0 hj1 hl0 hcell m0 m1 mm0 mm1
    refine TermPuts_r12 (ga := h0) (gb := h1) (gz := w7.heap.size) (gs := w6.heap.size) (gg := w8.heap.size) (gk := w9.heap.size) (nz := (nodes z).length) (nx := (nodes a).length) (ns := (nodes s).length) (ny := (nodes b).length) (by kernel_rfl) rfl rfl rfl rfl Y0 rfl Y1 rfl YZ rfl YS rfl YG rfl v10 ?_ ?_ ?_ ?_ ?_ ?_ FZ.out.2.2.2.2 (by have := FF.out.2.2; omega) (by have := FF.out.2.2; omega) ?_
    · intro w1 hb; exact term_Same.calls _ _ _ g.f1 _ _ _ b.f1 true w1 (Kd.C_below DG hb) HLg.out (Kd.C_below D1 hb) hq1 FE.out.1
    · intro w1 hb; exact term_Same.calls _ _ _ bk.f1 _ _ _ a.f1 true w1 (Kd.C_below DB hb) HLb.out (Kd.C_below D0 hb) hq0 FE.out.2.1
    · intro w1 hb; exact term_Size.calls _ _ _ z.f1 _ w1 (Kd.C_below DZ hb) HLz.out FE.out.2.2.1
    · intro w1 hb; exact term_Size.calls _ _ _ a.f1 _ w1 (Kd.C_below D0 hb) hq0 FE.out.2.2.2.1
    · intro w1 hb; exact term_Size.calls _ _ _ s.f1 _ w1 (Kd.C_below DS hb) HLs.out FE.out.2.2.2.2.1
    · intro w1 hb; exact term_Size.calls _ _ _ b.f1 _ w1 (Kd.C_below D1 hb) hq1 FE.out.2.2.2.2.2
    intro v w11 hb11 hv34
    simp only [layL, Nat.reduceAdd, List.setIfInBounds_toArray, List.set_cons_zero, List.set_cons_succ, hv34]
    clear hv34
    generalize v 0 = vv0
    generalize v 1 = vv1
    generalize v 2 = vv2
    generalize v 3 = vv3
    generalize v 4 = vv4
    generalize v 5 = vv5
    generalize v 6 = vv6
    generalize v 7 = vv7
    generalize v 8 = vv8
    generalize v 9 = vv9
    generalize v 10 = vv10
    generalize v 11 = vv11
    generalize v 12 = vv12
    generalize v 13 = vv13
    generalize v 14 = vv14
    generalize v 15 = vv15
    generalize v 16 = vv16
    generalize v 17 = vv17
    generalize v 18 = vv18
    generalize v 19 = vv19
    generalize v 20 = vv20
    generalize v 21 = vv21
    generalize v 22 = vv22
    generalize v 23 = vv23
    generalize v 24 = vv24
    generalize v 25 = vv25
    generalize v 26 = vv26
    generalize v 27 = vv27
    generalize v 28 = vv28
    generalize v 29 = vv29
    generalize v 30 = vv30
    generalize v 31 = vv31
    generalize v 32 = vv32
    generalize v 33 = vv33
    clear v
    have HCLs := Aside0.mk (Kd.C_below hcl10 hb11)
    have HCQ := Aside0.mk (Kd.C_below hcq10 hb11)
    have HD0 := Aside0.mk (Kd.C_below D0 hb11)
    have HDZ := Aside0.mk (Kd.C_below DZ hb11)
    have HY0 := Aside0.mk (blk_below Y0 hb11)
    have HYZ := Aside0.mk (blk_below YZ hb11)
    have HB11 := Aside0.mk (HB3.out.trans ((HB10.out.trans (hb11.mono HB10.out.size)).mono HB3.out.size))
    clear hcl10 hcq10 D0 D1 DS DZ DG DB Y0 Y1 YS YZ YG v10 hb11 c6 c7 c8 c10 d6 d7 d8 d10 e7 e8 e10 f8 f10 j10 s7 s8 s10 t8 t10 u10 g56 FE HC0 HC1 HX0 HX1 HCq HCq6 HCq7 HFs HFz HFg HFb HLs HLg HLb HB5 HB6 HB7 HB8 HB9 HB56 HB10 HCL FP
    go_wp2
    go_loopw [19] (fun i wr => ∃ k : Nat, k ≤ ls.length ∧ i = .int .i64 k ∧ Aside0 (Below w11.heap.size w11 wr)) (fun i wr => ls.length - (intOf i).toNat)
    case atStart => exact ⟨0, Nat.zero_le _, rfl, ⟨Below.refl _ _⟩⟩
    case round =>
      obtain ⟨k, hk, rfl, hb⟩ := hrel
      by_cases hlt : k < ls.length
      · obtain ⟨s1, hs1, hq60⟩ := FO.out.2 k hlt
        obtain ⟨ad', cc, hAl, hcc0, hK, hcc⟩ := ReadsRow.get_ (Kd.C_below HCLs.out hb.out) [] (k : Int) (by omega) (by omega)
        injection hAl with hAl
        subst hAl
        obtain ⟨Ak, ck, hce, hlk, hCk⟩ := hK
        subst hce
        rw [Int.toNat_natCast] at hcc hlk hCk
        obtain ⟨q', hq'⟩ : ∃ q', q' = ls.getD k [] := ⟨_, rfl⟩
        rw [← hq'] at hs1 hq60 hcc hlk hCk
        have hcell : wr.cell? (ad.add k) = some (.slice Ak q'.length ck) := by
          have h9 := hcc 0 _ rfl
          rw [show (Kd.slice 3 (Kd.int .i64)).sz = 1 from rfl, Nat.mul_one, Nat.add_zero] at h9
          exact h9
        obtain ⟨ku1, eu1⟩ := (Under_spec q' q (by omega)).rounds
        obtain ⟨ku2, eu2⟩ := (Under_spec q q' (by have := FQ60.out; omega)).rounds
        have hC39 := Aside0.mk (And.intro hCk (Kd.C_below HCQ.out hb.out))
        have hLk := Aside0.mk hlk
        have hs1z := Aside0.mk hs1
        have hq60z := Aside0.mk hq60
        clear hcc hcc0 hCk hlk hs1 hq60 hq'
        by_cases p1 : q <+: q'
        · rw [decide_eq_true p1] at eu1
          have E1 := Aside0.mk eu1
          clear eu1 eu2 p1
          go_wp2_with (go_at_call 39; refine (soriteslaw06_under.calls ku1 Ak ck q' Aq cq q _ wr hC39.out.1 hLk.out hC39.out.2 HLq.out E1.out).mono ?_; rintro e w12 ⟨rfl, hb12d⟩; have hb12 : Below wr.heap.size wr w12 := hb12d.below; clear hb12d; have hcell12 := (hb12.cell (cell_lt' hcell)).trans hcell; have HB12 := Aside0.mk hb12)
          go_roundw
          case rel => exact ⟨k + 1, by omega, by go_num, ⟨hb.out.trans (hb12.mono hb.out.size)⟩⟩
          case measure => simp [intOf]; omega
        · rw [decide_eq_false p1] at eu1
          by_cases p2 : q' <+: q
          · rw [decide_eq_true p2] at eu2
            have E1 := Aside0.mk eu1
            have E2 := Aside0.mk eu2
            clear eu1 eu2 p1 p2
            go_wp2_with (first | (go_at_call 39; refine (soriteslaw06_under.calls ku2 Aq cq q Ak ck q' _ w12 (Kd.C_below hC39.out.2 HB12.out) HLq.out (Kd.C_below hC39.out.1 HB12.out) hLk.out E2.out).mono ?_; rintro e w13 ⟨rfl, hb13d⟩; have hb13 : Below w12.heap.size w12 w13 := hb13d.below; clear hb13d; replace hb13 := Aside0.mk (HB12.out.trans (hb13.mono HB12.out.size))) | (go_at_call 39; refine (soriteslaw06_under.calls ku1 Ak ck q' Aq cq q _ wr hC39.out.1 hLk.out hC39.out.2 HLq.out E1.out).mono ?_; rintro e w12 ⟨rfl, hb12d⟩; have hb12 : Below wr.heap.size wr w12 := hb12d.below; clear hb12d; have hcell12 := (hb12.cell (cell_lt' hcell)).trans hcell; have HB12 := Aside0.mk hb12))
            go_roundw
            case rel => exact ⟨k + 1, by omega, by go_num, ⟨hb.out.trans (hb13.out.mono hb.out.size)⟩⟩
            case measure => simp [intOf]; omega
          · rw [decide_eq_false p2] at eu2
            have E1 := Aside0.mk eu1
            have E2 := Aside0.mk eu2
            obtain ⟨s2, hs2, hcs⟩ := FO.out.1 q' s1 p1 p2 hs1z.out
            obtain ⟨ka1, ea1⟩ := (At_spec q' [] a FF.out.1 (by have := hq60z.out; simp; omega)).rounds
            obtain ⟨ka2, ea2⟩ := (At_spec q' [] z FZ.out.2.1 (by have := hq60z.out; simp; omega)).rounds
            rw [hs1z.out] at ea1
            rw [hs2] at ea2
            have es := Same_of s1 s2
            rw [hcs] at es
            have EA := Aside0.mk (And.intro (show term_At.f ka1 a.f0 a.f1 q' = some (s1.f0, s1.f1, true) from ea1) (And.intro (show term_At.f ka2 z.f0 z.f1 q' = some (s2.f0, s2.f1, true) from ea2) es))
            clear eu1 eu2 p1 p2 hs2 hcs ea1 ea2 es
            go_wp2_with (first | (go_at_call 39; refine (soriteslaw06_under.calls ku2 Aq cq q Ak ck q' _ w12 (Kd.C_below hC39.out.2 HB12.out) HLq.out (Kd.C_below hC39.out.1 HB12.out) hLk.out E2.out).mono ?_; rintro e w13 ⟨rfl, hb13d⟩; have hb13 : Below w12.heap.size w12 w13 := hb13d.below; clear hb13d; replace hb13 := Aside0.mk (HB12.out.trans (hb13.mono HB12.out.size))) | (go_at_call 39; refine (soriteslaw06_under.calls ku1 Ak ck q' Aq cq q _ wr hC39.out.1 hLk.out hC39.out.2 HLq.out E1.out).mono ?_; rintro e w12 ⟨rfl, hb12d⟩; have hb12 : Below wr.heap.size wr w12 := hb12d.below; clear hb12d; have hcell12 := (hb12.cell (cell_lt' hcell)).trans hcell; have HB12 := Aside0.mk hb12))
            have hcell13 := (hb13.out.cell (cell_lt' hcell)).trans hcell
            have hbw := hb.out.trans (hb13.out.mono hb.out.size)
            refine TermPuts_r18 (i := (k : Int)) (ga := h0) (m := ls.length) (r := s1) (b := true) (ad := ad) (Aq := Ak) (lq := q'.length) (cq := ck) (by kernel_rfl) rfl rfl rfl (blk_below HY0.out hbw) ⟨by omega, by omega⟩ (by rw [Int.toNat_natCast]; exact hcell13) ?_ ?_
            · intro w1 hb1
              refine (term_At.calls ka1 a.f0 (fun k => k < w13.heap.size) X0 q0 a.f1 Ak ck q' s1.f0 s1.f1 true w1 (Kd.V_mk hq0 (F_old k30_heap (Kd.C_below HD0.out hbw) hb1)) (Kd.C_below (Kd.C_below hC39.out.1 hb13.out) hb1) hLk.out EA.out.1).mono ?_
              rintro e w2 ⟨v1, rfl, hV, hb2⟩
              obtain ⟨A', c', hv1, hl, hF⟩ := hV
              subst hv1
              exact ⟨A', c', rfl, hl, hF, hb2⟩
            intro v w14 g1 A1 c1 hb14 hv11 hv9 hg1 hbx1 hl1 hF1
            simp only [layL, Nat.reduceAdd, List.setIfInBounds_toArray, List.set_cons_zero, List.set_cons_succ, hv11, hv9]
            clear hv11 hv9
            generalize v 0 = va0
            generalize v 1 = va1
            generalize v 2 = va2
            generalize v 3 = va3
            generalize v 4 = va4
            generalize v 5 = va5
            generalize v 6 = va6
            generalize v 7 = va7
            generalize v 8 = va8
            clear v
            have hcell14 := (hb14.cell (cell_lt' hcell13)).trans hcell13
            have hb1314 := hb13.out.trans (hb14.mono hb13.out.size)
            have hbw14 := hb.out.trans (hb1314.mono hb.out.size)
            have HF1 := Aside0.mk (Kd.F_now hF1)
            have HL1 := Aside0.mk hl1
            have HX1' := Aside0.mk hbx1
            have HBW := Aside0.mk hbw14
            have HB1314 := Aside0.mk hb1314
            have HCELL := Aside0.mk hcell14
            clear hcell hcell13 hcell14 hb1314 hbw14 hbw hF1 hl1 hbx1 hb14
            go_wp2
            refine TermPuts_r19 (i := (k : Int)) (ga := w7.heap.size) (m := ls.length) (r := s2) (b := true) (ad := ad) (Aq := Ak) (lq := q'.length) (cq := ck) (by kernel_rfl) rfl rfl rfl (blk_below HYZ.out HBW.out) ⟨by omega, by omega⟩ (by rw [Int.toNat_natCast]; exact HCELL.out) ?_ ?_
            · intro w1 hb1
              refine (term_At.calls ka2 z.f0 (fun k => k < w14.heap.size) Az cz z.f1 Ak ck q' s2.f0 s2.f1 true w1 (Kd.V_mk HLz.out (F_old k30_heap (Kd.C_below HDZ.out HBW.out) hb1)) (Kd.C_below (Kd.C_below hC39.out.1 HB1314.out) hb1) hLk.out EA.out.2.1).mono ?_
              rintro e w2 ⟨v1, rfl, hV, hb2⟩
              obtain ⟨A', c', hv1, hl, hF⟩ := hV
              subst hv1
              exact ⟨A', c', rfl, hl, hF, hb2⟩
            intro v w15 g2 A2 c2 hb15 hv11 hv9 hg2 hbx2 hl2 hF2
            simp only [layL, Nat.reduceAdd, List.setIfInBounds_toArray, List.set_cons_zero, List.set_cons_succ, hv11, hv9]
            clear hv11 hv9
            generalize v 0 = vb0
            generalize v 1 = vb1
            generalize v 2 = vb2
            generalize v 3 = vb3
            generalize v 4 = vb4
            generalize v 5 = vb5
            generalize v 6 = vb6
            generalize v 7 = vb7
            generalize v 8 = vb8
            clear v
            have hy1 := blk_below HX1'.out hb15
            have m0 : w15.cell? ⟨g1, 0, none⟩ = some (.int .i64 s1.f0) := (blk_cell hy1 0).trans rfl
            have m1 : w15.cell? ⟨g1, 1, none⟩ = some (.slice A1 s1.f1.length c1) := (blk_cell hy1 1).trans rfl
            have m2 : w15.cell? ⟨g2, 0, none⟩ = some (.int .i64 s2.f0) := (blk_cell hbx2 0).trans rfl
            have m3 : w15.cell? ⟨g2, 1, none⟩ = some (.slice A2 s2.f1.length c2) := (blk_cell hbx2 1).trans rfl
            have HC15 := Aside0.mk (Kd.C_below HF1.out hb15)
            have HC25 := Aside0.mk (Kd.F_now hF2)
            have HL2 := Aside0.mk hl2
            have HB15 := Aside0.mk (HBW.out.trans (hb15.mono HBW.out.size))
            clear hy1 hbx2 hF2 hl2 hb15
            go_wp2_with (go_at_call 37; refine (term_Same.calls _ _ _ s1.f1 _ _ _ s2.f1 true w15 HC15.out HL1.out HC25.out HL2.out EA.out.2.2).mono ?_; rintro e w16 ⟨rfl, hb16⟩; have HB16 := Aside0.mk hb16; clear hb16)
            go_roundw
            case rel => exact ⟨k + 1, by omega, by go_num, ⟨HB15.out.trans (HB16.out.mono HB15.out.size)⟩⟩
            case measure => simp [intOf]; omega
      · have hke : k = ls.length := by omega
        go_wp2
        go_ret
        exact ⟨rfl, HB11.out.trans (hb.out.mono HB11.out.size)⟩
end Go.Proofs.Ytpfddihcikiofaa.P
end

section
namespace Go.Proofs.Ytpfddihcikiofaa.termPuts
open Go.ChangeShapes Go.WideShapes Go.ChangeAt Go.RowKit
set_option linter.unusedVariables false
theorem own : ownKnob Try.prog.godebug = none := by kernel_rfl
theorem laidOut : laidOutB Try.prog = true := by kernel_rfl
set_option maxRecDepth 100000 in
theorem lifted (os : Os) (started : os.Started) (H : Type) (enc : TypeId × Value → H) :
    ReturnsInHanded {} Try.checked os 7 .any (Rows.termPutsSpec.pre6 enc Try.prog Try.f7 Rows.termPutsRow.domain false) (Rows.termPutsSpec.post enc Try.prog Try.f7 false true false false) := by
  refine returnsInHanded_of_change_sized (C := Try.checked) own started (by kernel_rfl) Try.func7
    (ChangeSpec.witness6 (enc := enc) (C := Try.checked) false ⟨#[], #[.agg #[.int .i64 0, .slice none 0 0], .agg #[.int .i64 0, .slice none 0 0], .int .u8 0], []⟩ 8 (by kernel_rfl) (by kernel_rfl) (by kernel_rfl) (by kernel_rfl)) ?_
  intro W base args ds gs before hval0 hW hcnd hsz0 _
  have hval : ∀ (j : Nat) t v, Try.f7.params[j]? = some t → args[j]? = some v → Value.okWide Try.prog W .any base t v := hval0
  have hW' := hW
  obtain ⟨p, q, hA0, hV, rfl, hfz, hnd⟩ := hW
  have hA : DataW.TrodAll enc Try.prog W 0 (fun _ => true) true Try.f7.params.toList args.toList ds p := hA0
  rw [Try.params7] at hA hval
  obtain ⟨v0, vs0, d0, ds0, p0, q0, hargs, rfl, rfl, h0, r0⟩ := trodAll_cons hA
  obtain ⟨v1, vs1, d1, ds1, p1, q1, rfl, rfl, rfl, h1, r1⟩ := trodAll_cons r0
  obtain ⟨v2, vs2, d2, ds2, p2, q2, rfl, rfl, rfl, h2, r2⟩ := trodAll_cons r1
  obtain ⟨rfl, rfl, rfl⟩ := trodAll_nil r2
  obtain rfl : args = #[v0, v1, v2] := by cases args; simp_all
  obtain ⟨rfl, rfl⟩ := trodVars_none hV
  have k0 := h0
  have lt0 : ∀ x ∈ p0, x.block < W.heap.size := by obtain ⟨m, hm⟩ := k0; exact DataW.trod_lt m _ _ _ hm
  obtain ⟨t0, A0, c0, rfl, hc0, hC0, hw0⟩ := P.open_T (hval 0 24 v0 rfl rfl) h0
  have k1 := h1
  have lt1 : ∀ x ∈ p1, x.block < W.heap.size := by obtain ⟨m, hm⟩ := k1; exact DataW.trod_lt m _ _ _ hm
  obtain ⟨t1, A1, c1, rfl, hc1, hC1, hw1⟩ := P.open_T (hval 1 24 v1 rfl rfl) h1
  obtain ⟨a2, rfl, rfl, rfl, w2⟩ := open_int Try.underlying5 (hval 2 5 v2 rfl rfl) h2
  clear hA0 hval0 hsz0
  refine (P.TermPuts_walk t0 t1 a2 A0 c0 A1 c1 W (by have := w2; simp [Lit.wf, IntKind.min, IntKind.max, IntKind.signed, IntKind.bits] at this; omega) hC0 hc0 hC1 hc1).mono fun e W' ⟨he, bel⟩ => ?_
  subst he
  exact ⟨_, rfl, _, _, _, [], _, [], hW', trodAll_mk1 (shut_bool Try.underlying4 _), (trodAll_cons_mk (Below.trod laidOut (by kernel_rfl) (of_decide_eq_true (by kernel_rfl)) k0 bel lt0) (trodAll_cons_mk (Below.trod laidOut (by kernel_rfl) (of_decide_eq_true (by kernel_rfl)) k1 bel lt1) (trodAll_cons_mk (shut_int Try.underlying5 w2) trodAll_mk0))), rfl, bel.frame _, fun h => by cases h⟩
theorem over : Rows.termPutsRow.holds Try.pinned (OpenSpec.ofChange Rows.termPutsSpec) :=
  OpenClaim.holds_of_wide 7 Try.f7 rfl rfl rfl rfl rfl rfl rfl ⟨rfl, rfl, rfl, rfl, rfl⟩ rfl rfl rfl rfl rfl (by kernel_rfl) Try.func7 (by kernel_rfl)
    (of_decide_eq_true (by kernel_rfl)) (by unfold Func.isWrapper; first | (rw [if_pos (by decide +kernel)]; kernel_rfl) | (rw [if_neg (by decide +kernel)]; exact ⟨rfl, rfl⟩))
    (fun os started H enc _ => lifted os started H enc)
end Go.Proofs.Ytpfddihcikiofaa.termPuts
namespace Go.Proofs.Ytpfddihcikiofaa
theorem termPuts_holds : Rows.TermPutsSaid := termPuts.over
#print axioms termPuts_holds
end Go.Proofs.Ytpfddihcikiofaa
end
