/- The law KboRules holds of every input. Part 4 of 4: PxKboCompare, PxSoriteslaw10Alive, GSpec10, GKboLaw, PxTermAt, GPlaceLaw, GRulesLaw, GKboRules, LawKboRules. -/
import Derived.Test.YtpfddihcikiofaaZKboRules2
import Derived.Test.YtpfddihcikiofaaZKboRules3
import Derived.Test.YtpfddihcikiofaaRows
import Derived.WalkKit
import Derived.ProofKit
import Derived.OpenShut
import Derived.ShutString
import Derived.ChangeOld
import Derived.Below
import Derived.SizedLaws
import Derived.Test.YtpfddihcikiofaaZKboRules1
section
namespace Go.Proofs.Ytpfddihcikiofaa.P
open Go.RowKit Go.Proofs.YtpfddihcikiofaaW.PrintWords Go.Proofs.YtpfddihcikiofaaW.PrintLast Go.Proofs.YtpfddihcikiofaaW.PrintMore
attribute [local go_sem] max2_int min2_int max_two min_two max_three min_three max_four min_four
set_option linter.unusedVariables false
set_option linter.unusedSimpArgs false
def kbo_Compare.f (k : Nat) (a0_0 : Int) (l0_1 : List (S30)) (a1_0 : Int) (l1_1 : List (S30)) : Option (Int) := (term_Same.f a0_0 l0_1 a1_0 l1_1).bind fun t286 => (if t286 = true then (some 0) else ((kbo_Greater.f k a0_0 l0_1 a1_0 l1_1).bind fun t287 => (if t287 = true then (some 1) else ((kbo_Greater.f k a1_0 l1_1 a0_0 l0_1).bind fun t288 => (if t288 = true then (some (-1)) else (some 2))))))
set_option maxHeartbeats 8000000 in
set_option maxRecDepth 100000 in
theorem kbo_Compare.calls (k : Nat) (a0_0 : Int) (A0_1 : Option Addr) (c0_1 : Nat) (l0_1 : List (S30)) (a1_0 : Int) (A1_1 : Option Addr) (c1_1 : Nat) (l1_1 : List (S30)) (r : Int) (w : World) (hr0_1 : Kd.C k30 w A0_1 l0_1.length l0_1) (hc0_1 : l0_1.length ≤ c0_1) (hr1_1 : Kd.C k30 w A1_1 l1_1.length l1_1) (hc1_1 : l1_1.length ≤ c1_1) (h : kbo_Compare.f k a0_0 l0_1 a1_0 l1_1 = some r) :
    Calls Try.prog 43 #[.agg #[.int .i64 a0_0, .slice A0_1 l0_1.length c0_1], .agg #[.int .i64 a1_0, .slice A1_1 l1_1.length c1_1]] w fun e w' => e = .returned (.int .i64 r) ∧ Below w.heap.size w w' := by
  have hu30 := Try.underlying30
  have HR0_1 := Aside0.mk hr0_1
  have HC0_1 := Aside0.mk hc0_1
  clear hr0_1 hc0_1
  have HR1_1 := Aside0.mk hr1_1
  have HC1_1 := Aside0.mk hc1_1
  clear hr1_1 hc1_1
  have HB := Aside0.mk (Below.refl w.heap.size w)
  have H : ((term_Same.f a0_0 l0_1 a1_0 l1_1).bind fun t286 => (if t286 = true then (some 0) else ((kbo_Greater.f k a0_0 l0_1 a1_0 l1_1).bind fun t287 => (if t287 = true then (some 1) else ((kbo_Greater.f k a1_0 l1_1 a0_0 l0_1).bind fun t288 => (if t288 = true then (some (-1)) else (some 2))))))) = some r := h
  clear h
  replace H := Option.bind_eq_some_iff.mp H
  obtain ⟨t286, A30, H⟩ := H
  replace H : (if t286 = true then (some 0) else ((kbo_Greater.f k a0_0 l0_1 a1_0 l1_1).bind fun t287 => (if t287 = true then (some 1) else ((kbo_Greater.f k a1_0 l1_1 a0_0 l0_1).bind fun t288 => (if t288 = true then (some (-1)) else (some 2)))))) = some r := H
  have A3 := Aside0.mk A30
  clear A30
  by_cases c4 : t286 = true
  · subst c4
    have H1 : (some 0) = some r := by rw [if_pos rfl] at H; exact H
    clear H
    have H := H1
    clear H1
    obtain rfl := Option.some.inj H
    go_enter Try.func43, Try.ntmps43
    go_wp2_with (first | ((with_reducible refine gate_dst (N := 2) rfl ?_); refine box_event ?hg (N := 2) ?hd (cs := #[.int .i64 a0_0, .slice A0_1 l0_1.length c0_1]) (t := 30) ?hr ?_; (case hd => rfl); (case hg => rfl); (case hr => first | (go_simp; done) | (go_simp; rfl)); intro gb284 hg w5 hbox hb; have n0_ := Aside0.mk (below_step (by repeat (first | (with_reducible first | exact HB.out | apply below_alloc | apply pw_below_drewN | apply below_drew1) | exact HB.out)) hb); have n1_ := Aside0.mk (hbox); have n2_ := Aside0.mk ((by rw [hg]; exact (below_size (by repeat (first | (with_reducible first | exact HB.out | apply below_alloc | apply pw_below_drewN | apply below_drew1) | exact HB.out))) : w.heap.size ≤ gb284)); have n3_ := Aside0.mk ((by rw [hg]; exact (below_size (by repeat (first | (with_reducible first | exact HB.out | apply below_alloc | apply pw_below_drewN | apply below_drew1) | exact HB.out))) : w.heap.size ≤ gb284)); clear HB; have HB := n0_; have BK284 := n1_; have GW284 := n2_; have GE284 := n3_; clear n0_ n1_ n2_ n3_; clear hb hbox hg) | ((with_reducible refine gate_dst (N := 3) rfl ?_); refine box_event ?hg (N := 3) ?hd (cs := #[.int .i64 a1_0, .slice A1_1 l1_1.length c1_1]) (t := 30) ?hr ?_; (case hd => rfl); (case hg => rfl); (case hr => first | (go_simp; done) | (go_simp; rfl)); intro gb285 hg w6 hbox hb; have n0_ := Aside0.mk (blk_below (g := gb284) (o := .cells #[.int .i64 a0_0, .slice A0_1 l0_1.length c0_1] 30 (0, 0)) (by (with_reducible repeat (first | refine blk_drewN ?_ _ | refine blk_drew ?_ | refine blk_alloc ?_ _)); exact BK284.out) hb); have n1_ := Aside0.mk (below_step (by repeat (first | (with_reducible first | exact HB.out | apply below_alloc | apply pw_below_drewN | apply below_drew1 | refine below_set ?_ GE284.out) | exact HB.out)) hb); have n2_ := Aside0.mk (hbox); have n3_ := Aside0.mk ((by rw [hg]; exact (below_size (by repeat (first | (with_reducible first | exact HB.out | apply below_alloc | apply pw_below_drewN | apply below_drew1 | refine below_set ?_ GE284.out) | exact HB.out))) : w.heap.size ≤ gb285)); have n4_ := Aside0.mk ((by rw [hg]; exact (below_size (by repeat (first | (with_reducible first | exact HB.out | apply below_alloc | apply pw_below_drewN | apply below_drew1 | refine below_set ?_ GE284.out) | exact HB.out))) : w.heap.size ≤ gb285)); have n5_ := Aside0.mk ((by rw [hg]; exact Nat.ne_of_lt (blk_lt (g := gb284) (o := .cells #[.int .i64 a0_0, .slice A0_1 l0_1.length c0_1] 30 (0, 0)) (by (with_reducible repeat (first | refine blk_drewN ?_ _ | refine blk_drew ?_ | refine blk_alloc ?_ _)); exact BK284.out)) : gb284 ≠ gb285)); have n6_ := Aside0.mk ((by rw [hg]; exact Nat.ne_of_gt (blk_lt (g := gb284) (o := .cells #[.int .i64 a0_0, .slice A0_1 l0_1.length c0_1] 30 (0, 0)) (by (with_reducible repeat (first | refine blk_drewN ?_ _ | refine blk_drew ?_ | refine blk_alloc ?_ _)); exact BK284.out)) : gb285 ≠ gb284)); clear BK284; clear HB; have BK284 := n0_; have HB := n1_; have BK285 := n2_; have GW285 := n3_; have GE285 := n4_; have NB284_285 := n5_; have NB285_284 := n6_; clear n0_ n1_ n2_ n3_ n4_ n5_ n6_; clear hb hbox hg; have hnb7 := NB284_285.out; have hnc7 := NB285_284.out; have hcz8_0 : w6.cell? ⟨gb284, 0, none⟩ = some (.int .i64 a0_0) := (blk_cell BK284.out 0).trans rfl; have hcz8_1 : w6.cell? ⟨gb284, 1, none⟩ = some (.slice A0_1 l0_1.length c0_1) := (blk_cell BK284.out 1).trans rfl; have hfz8_0 := blk_frozen BK284.out 0; have hfz8_1 := blk_frozen BK284.out 1; have hcz9_0 : w6.cell? ⟨gb285, 0, none⟩ = some (.int .i64 a1_0) := (blk_cell BK285.out 0).trans rfl; have hcz9_1 : w6.cell? ⟨gb285, 1, none⟩ = some (.slice A1_1 l1_1.length c1_1) := (blk_cell BK285.out 1).trans rfl; have hfz9_0 := blk_frozen BK285.out 0; have hfz9_1 := blk_frozen BK285.out 1) | ((with_reducible refine gate_callee (f := 37) rfl ?_); refine goesL_ (some 8) rfl rfl Try.func37 (by kernel_rfl) rfl #[.agg #[.int .i64 a0_0, .slice A0_1 l0_1.length c0_1], .agg #[.int .i64 a1_0, .slice A1_1 l1_1.length c1_1]] rfl (by (try simp only [List.map_toArray, List.map_cons, List.map_nil]); first | done | rfl | (simp only [List.length_drop, List.length_take]; rfl)) ?_; (with_reducible refine (term_Same.calls a0_0 _ _ l0_1 a1_0 _ _ l1_1 true _ ?side1 ?side2 ?side3 ?side4 A3.out).mono ?_); (case side1 => repeat (first | exact (Kd.C_below HR0_1.out HB.out) | (with_reducible refine Kd.C_alloc ?_ _) | (with_reducible refine Kd.C_drewN ?_ _) | (with_reducible refine Kd.C_drew ?_))); (case side2 => exact HC0_1.out); (case side3 => repeat (first | exact (Kd.C_below HR1_1.out HB.out) | (with_reducible refine Kd.C_alloc ?_ _) | (with_reducible refine Kd.C_drewN ?_ _) | (with_reducible refine Kd.C_drew ?_))); (case side4 => exact HC1_1.out); rintro e w10 ⟨rfl, hb⟩; refine ⟨_, rfl, ?_⟩; have n0_ := Aside0.mk (blk_below (g := gb284) (o := .cells #[.int .i64 a0_0, .slice A0_1 l0_1.length c0_1] 30 (0, 0)) (by (with_reducible repeat (first | refine blk_drewN ?_ _ | refine blk_drew ?_ | refine blk_alloc ?_ _)); exact BK284.out) hb); have n1_ := Aside0.mk (blk_below (g := gb285) (o := .cells #[.int .i64 a1_0, .slice A1_1 l1_1.length c1_1] 30 (0, 0)) (by (with_reducible repeat (first | refine blk_drewN ?_ _ | refine blk_drew ?_ | refine blk_alloc ?_ _)); exact BK285.out) hb); have n2_ := Aside0.mk (below_step (by repeat (first | (with_reducible first | exact HB.out | apply below_alloc | apply pw_below_drewN | apply below_drew1 | refine below_set ?_ GE284.out | refine below_set ?_ GE285.out) | exact HB.out)) hb); clear BK284; clear BK285; clear HB; have BK284 := n0_; have BK285 := n1_; have HB := n2_; clear n0_ n1_ n2_; (try clear hb); (try clear hb2); (try clear hk); (try clear hi)))
    go_ret
    exact ⟨by first | rfl | (simp [errW_none, errW_some] <;> rfl) | (simp [*, errW_none, errW_some] <;> rfl), by repeat (first | (with_reducible first | exact HB.out | apply below_alloc | apply pw_below_drewN | apply below_drew1 | refine below_set ?_ GE284.out | refine below_set ?_ GE285.out) | exact HB.out)⟩
  · replace c4 := Bool.eq_false_iff.mpr c4
    subst c4
    have H1 : ((kbo_Greater.f k a0_0 l0_1 a1_0 l1_1).bind fun t287 => (if t287 = true then (some 1) else ((kbo_Greater.f k a1_0 l1_1 a0_0 l0_1).bind fun t288 => (if t288 = true then (some (-1)) else (some 2))))) = some r := by rw [if_neg (show ¬ (false = true) by decide)] at H; exact H
    clear H
    have H := H1
    clear H1
    replace H := Option.bind_eq_some_iff.mp H
    obtain ⟨t287, A110, H⟩ := H
    replace H : (if t287 = true then (some 1) else ((kbo_Greater.f k a1_0 l1_1 a0_0 l0_1).bind fun t288 => (if t288 = true then (some (-1)) else (some 2)))) = some r := H
    have A11 := Aside0.mk A110
    clear A110
    by_cases c12 : t287 = true
    · subst c12
      have H1 : (some 1) = some r := by rw [if_pos rfl] at H; exact H
      clear H
      have H := H1
      clear H1
      obtain rfl := Option.some.inj H
      go_enter Try.func43, Try.ntmps43
      go_wp2_with (first | ((with_reducible refine gate_dst (N := 2) rfl ?_); refine box_event ?hg (N := 2) ?hd (cs := #[.int .i64 a0_0, .slice A0_1 l0_1.length c0_1]) (t := 30) ?hr ?_; (case hd => rfl); (case hg => rfl); (case hr => first | (go_simp; done) | (go_simp; rfl)); intro gb284 hg w13 hbox hb; have n0_ := Aside0.mk (below_step (by repeat (first | (with_reducible first | exact HB.out | apply below_alloc | apply pw_below_drewN | apply below_drew1) | exact HB.out)) hb); have n1_ := Aside0.mk (hbox); have n2_ := Aside0.mk ((by rw [hg]; exact (below_size (by repeat (first | (with_reducible first | exact HB.out | apply below_alloc | apply pw_below_drewN | apply below_drew1) | exact HB.out))) : w.heap.size ≤ gb284)); have n3_ := Aside0.mk ((by rw [hg]; exact (below_size (by repeat (first | (with_reducible first | exact HB.out | apply below_alloc | apply pw_below_drewN | apply below_drew1) | exact HB.out))) : w.heap.size ≤ gb284)); clear HB; have HB := n0_; have BK284 := n1_; have GW284 := n2_; have GE284 := n3_; clear n0_ n1_ n2_ n3_; clear hb hbox hg) | ((with_reducible refine gate_dst (N := 3) rfl ?_); refine box_event ?hg (N := 3) ?hd (cs := #[.int .i64 a1_0, .slice A1_1 l1_1.length c1_1]) (t := 30) ?hr ?_; (case hd => rfl); (case hg => rfl); (case hr => first | (go_simp; done) | (go_simp; rfl)); intro gb285 hg w14 hbox hb; have n0_ := Aside0.mk (blk_below (g := gb284) (o := .cells #[.int .i64 a0_0, .slice A0_1 l0_1.length c0_1] 30 (0, 0)) (by (with_reducible repeat (first | refine blk_drewN ?_ _ | refine blk_drew ?_ | refine blk_alloc ?_ _)); exact BK284.out) hb); have n1_ := Aside0.mk (below_step (by repeat (first | (with_reducible first | exact HB.out | apply below_alloc | apply pw_below_drewN | apply below_drew1 | refine below_set ?_ GE284.out) | exact HB.out)) hb); have n2_ := Aside0.mk (hbox); have n3_ := Aside0.mk ((by rw [hg]; exact (below_size (by repeat (first | (with_reducible first | exact HB.out | apply below_alloc | apply pw_below_drewN | apply below_drew1 | refine below_set ?_ GE284.out) | exact HB.out))) : w.heap.size ≤ gb285)); have n4_ := Aside0.mk ((by rw [hg]; exact (below_size (by repeat (first | (with_reducible first | exact HB.out | apply below_alloc | apply pw_below_drewN | apply below_drew1 | refine below_set ?_ GE284.out) | exact HB.out))) : w.heap.size ≤ gb285)); have n5_ := Aside0.mk ((by rw [hg]; exact Nat.ne_of_lt (blk_lt (g := gb284) (o := .cells #[.int .i64 a0_0, .slice A0_1 l0_1.length c0_1] 30 (0, 0)) (by (with_reducible repeat (first | refine blk_drewN ?_ _ | refine blk_drew ?_ | refine blk_alloc ?_ _)); exact BK284.out)) : gb284 ≠ gb285)); have n6_ := Aside0.mk ((by rw [hg]; exact Nat.ne_of_gt (blk_lt (g := gb284) (o := .cells #[.int .i64 a0_0, .slice A0_1 l0_1.length c0_1] 30 (0, 0)) (by (with_reducible repeat (first | refine blk_drewN ?_ _ | refine blk_drew ?_ | refine blk_alloc ?_ _)); exact BK284.out)) : gb285 ≠ gb284)); clear BK284; clear HB; have BK284 := n0_; have HB := n1_; have BK285 := n2_; have GW285 := n3_; have GE285 := n4_; have NB284_285 := n5_; have NB285_284 := n6_; clear n0_ n1_ n2_ n3_ n4_ n5_ n6_; clear hb hbox hg; have hnb15 := NB284_285.out; have hnc15 := NB285_284.out; have hcz16_0 : w14.cell? ⟨gb284, 0, none⟩ = some (.int .i64 a0_0) := (blk_cell BK284.out 0).trans rfl; have hcz16_1 : w14.cell? ⟨gb284, 1, none⟩ = some (.slice A0_1 l0_1.length c0_1) := (blk_cell BK284.out 1).trans rfl; have hfz16_0 := blk_frozen BK284.out 0; have hfz16_1 := blk_frozen BK284.out 1; have hcz17_0 : w14.cell? ⟨gb285, 0, none⟩ = some (.int .i64 a1_0) := (blk_cell BK285.out 0).trans rfl; have hcz17_1 : w14.cell? ⟨gb285, 1, none⟩ = some (.slice A1_1 l1_1.length c1_1) := (blk_cell BK285.out 1).trans rfl; have hfz17_0 := blk_frozen BK285.out 0; have hfz17_1 := blk_frozen BK285.out 1) | ((with_reducible refine gate_callee (f := 37) rfl ?_); refine goesL_ (some 8) rfl rfl Try.func37 (by kernel_rfl) rfl #[.agg #[.int .i64 a0_0, .slice A0_1 l0_1.length c0_1], .agg #[.int .i64 a1_0, .slice A1_1 l1_1.length c1_1]] rfl (by (try simp only [List.map_toArray, List.map_cons, List.map_nil]); first | done | rfl | (simp only [List.length_drop, List.length_take]; rfl)) ?_; (with_reducible refine (term_Same.calls a0_0 _ _ l0_1 a1_0 _ _ l1_1 false _ ?side1 ?side2 ?side3 ?side4 A3.out).mono ?_); (case side1 => repeat (first | exact (Kd.C_below HR0_1.out HB.out) | (with_reducible refine Kd.C_alloc ?_ _) | (with_reducible refine Kd.C_drewN ?_ _) | (with_reducible refine Kd.C_drew ?_))); (case side2 => exact HC0_1.out); (case side3 => repeat (first | exact (Kd.C_below HR1_1.out HB.out) | (with_reducible refine Kd.C_alloc ?_ _) | (with_reducible refine Kd.C_drewN ?_ _) | (with_reducible refine Kd.C_drew ?_))); (case side4 => exact HC1_1.out); rintro e w18 ⟨rfl, hb⟩; refine ⟨_, rfl, ?_⟩; have n0_ := Aside0.mk (blk_below (g := gb284) (o := .cells #[.int .i64 a0_0, .slice A0_1 l0_1.length c0_1] 30 (0, 0)) (by (with_reducible repeat (first | refine blk_drewN ?_ _ | refine blk_drew ?_ | refine blk_alloc ?_ _)); exact BK284.out) hb); have n1_ := Aside0.mk (blk_below (g := gb285) (o := .cells #[.int .i64 a1_0, .slice A1_1 l1_1.length c1_1] 30 (0, 0)) (by (with_reducible repeat (first | refine blk_drewN ?_ _ | refine blk_drew ?_ | refine blk_alloc ?_ _)); exact BK285.out) hb); have n2_ := Aside0.mk (below_step (by repeat (first | (with_reducible first | exact HB.out | apply below_alloc | apply pw_below_drewN | apply below_drew1 | refine below_set ?_ GE284.out | refine below_set ?_ GE285.out) | exact HB.out)) hb); clear BK284; clear BK285; clear HB; have BK284 := n0_; have BK285 := n1_; have HB := n2_; clear n0_ n1_ n2_; (try clear hb); (try clear hb2); (try clear hk); (try clear hi); have hcz19_0 : w18.cell? ⟨gb284, 0, none⟩ = some (.int .i64 a0_0) := (blk_cell BK284.out 0).trans rfl; have hcz19_1 : w18.cell? ⟨gb284, 1, none⟩ = some (.slice A0_1 l0_1.length c0_1) := (blk_cell BK284.out 1).trans rfl; have hfz19_0 := blk_frozen BK284.out 0; have hfz19_1 := blk_frozen BK284.out 1; have hcz20_0 : w18.cell? ⟨gb285, 0, none⟩ = some (.int .i64 a1_0) := (blk_cell BK285.out 0).trans rfl; have hcz20_1 : w18.cell? ⟨gb285, 1, none⟩ = some (.slice A1_1 l1_1.length c1_1) := (blk_cell BK285.out 1).trans rfl; have hfz20_0 := blk_frozen BK285.out 0; have hfz20_1 := blk_frozen BK285.out 1) | ((with_reducible refine gate_callee (f := 41) rfl ?_); refine goesL_ (some 12) rfl rfl Try.func41 (by kernel_rfl) rfl #[.agg #[.int .i64 a0_0, .slice A0_1 l0_1.length c0_1], .agg #[.int .i64 a1_0, .slice A1_1 l1_1.length c1_1]] rfl (by (try simp only [List.map_toArray, List.map_cons, List.map_nil]); first | done | rfl | (simp only [List.length_drop, List.length_take]; rfl)) ?_; (with_reducible refine (kbo_Greater.calls k a0_0 _ _ l0_1 a1_0 _ _ l1_1 true _ ?side1 ?side2 ?side3 ?side4 A11.out).mono ?_); (case side1 => repeat (first | exact (Kd.C_below HR0_1.out HB.out) | (with_reducible refine Kd.C_alloc ?_ _) | (with_reducible refine Kd.C_drewN ?_ _) | (with_reducible refine Kd.C_drew ?_))); (case side2 => exact HC0_1.out); (case side3 => repeat (first | exact (Kd.C_below HR1_1.out HB.out) | (with_reducible refine Kd.C_alloc ?_ _) | (with_reducible refine Kd.C_drewN ?_ _) | (with_reducible refine Kd.C_drew ?_))); (case side4 => exact HC1_1.out); rintro e w21 ⟨rfl, hb⟩; refine ⟨_, rfl, ?_⟩; have n0_ := Aside0.mk (blk_below (g := gb284) (o := .cells #[.int .i64 a0_0, .slice A0_1 l0_1.length c0_1] 30 (0, 0)) (by (with_reducible repeat (first | refine blk_drewN ?_ _ | refine blk_drew ?_ | refine blk_alloc ?_ _)); exact BK284.out) hb); have n1_ := Aside0.mk (blk_below (g := gb285) (o := .cells #[.int .i64 a1_0, .slice A1_1 l1_1.length c1_1] 30 (0, 0)) (by (with_reducible repeat (first | refine blk_drewN ?_ _ | refine blk_drew ?_ | refine blk_alloc ?_ _)); exact BK285.out) hb); have n2_ := Aside0.mk (below_step (by repeat (first | (with_reducible first | exact HB.out | apply below_alloc | apply pw_below_drewN | apply below_drew1 | refine below_set ?_ GE284.out | refine below_set ?_ GE285.out) | exact HB.out)) hb); clear BK284; clear BK285; clear HB; have BK284 := n0_; have BK285 := n1_; have HB := n2_; clear n0_ n1_ n2_; (try clear hb); (try clear hb2); (try clear hk); (try clear hi)))
      go_ret
      exact ⟨by first | rfl | (simp [errW_none, errW_some] <;> rfl) | (simp [*, errW_none, errW_some] <;> rfl), by repeat (first | (with_reducible first | exact HB.out | apply below_alloc | apply pw_below_drewN | apply below_drew1 | refine below_set ?_ GE284.out | refine below_set ?_ GE285.out) | exact HB.out)⟩
    · replace c12 := Bool.eq_false_iff.mpr c12
      subst c12
      have H1 : ((kbo_Greater.f k a1_0 l1_1 a0_0 l0_1).bind fun t288 => (if t288 = true then (some (-1)) else (some 2))) = some r := by rw [if_neg (show ¬ (false = true) by decide)] at H; exact H
      clear H
      have H := H1
      clear H1
      replace H := Option.bind_eq_some_iff.mp H
      obtain ⟨t288, A220, H⟩ := H
      replace H : (if t288 = true then (some (-1)) else (some 2)) = some r := H
      have A22 := Aside0.mk A220
      clear A220
      by_cases c23 : t288 = true
      · subst c23
        have H1 : (some (-1)) = some r := by rw [if_pos rfl] at H; exact H
        clear H
        have H := H1
        clear H1
        obtain rfl := Option.some.inj H
        go_enter Try.func43, Try.ntmps43
        go_wp2_with (first | ((with_reducible refine gate_dst (N := 2) rfl ?_); refine box_event ?hg (N := 2) ?hd (cs := #[.int .i64 a0_0, .slice A0_1 l0_1.length c0_1]) (t := 30) ?hr ?_; (case hd => rfl); (case hg => rfl); (case hr => first | (go_simp; done) | (go_simp; rfl)); intro gb284 hg w24 hbox hb; have n0_ := Aside0.mk (below_step (by repeat (first | (with_reducible first | exact HB.out | apply below_alloc | apply pw_below_drewN | apply below_drew1) | exact HB.out)) hb); have n1_ := Aside0.mk (hbox); have n2_ := Aside0.mk ((by rw [hg]; exact (below_size (by repeat (first | (with_reducible first | exact HB.out | apply below_alloc | apply pw_below_drewN | apply below_drew1) | exact HB.out))) : w.heap.size ≤ gb284)); have n3_ := Aside0.mk ((by rw [hg]; exact (below_size (by repeat (first | (with_reducible first | exact HB.out | apply below_alloc | apply pw_below_drewN | apply below_drew1) | exact HB.out))) : w.heap.size ≤ gb284)); clear HB; have HB := n0_; have BK284 := n1_; have GW284 := n2_; have GE284 := n3_; clear n0_ n1_ n2_ n3_; clear hb hbox hg) | ((with_reducible refine gate_dst (N := 3) rfl ?_); refine box_event ?hg (N := 3) ?hd (cs := #[.int .i64 a1_0, .slice A1_1 l1_1.length c1_1]) (t := 30) ?hr ?_; (case hd => rfl); (case hg => rfl); (case hr => first | (go_simp; done) | (go_simp; rfl)); intro gb285 hg w25 hbox hb; have n0_ := Aside0.mk (blk_below (g := gb284) (o := .cells #[.int .i64 a0_0, .slice A0_1 l0_1.length c0_1] 30 (0, 0)) (by (with_reducible repeat (first | refine blk_drewN ?_ _ | refine blk_drew ?_ | refine blk_alloc ?_ _)); exact BK284.out) hb); have n1_ := Aside0.mk (below_step (by repeat (first | (with_reducible first | exact HB.out | apply below_alloc | apply pw_below_drewN | apply below_drew1 | refine below_set ?_ GE284.out) | exact HB.out)) hb); have n2_ := Aside0.mk (hbox); have n3_ := Aside0.mk ((by rw [hg]; exact (below_size (by repeat (first | (with_reducible first | exact HB.out | apply below_alloc | apply pw_below_drewN | apply below_drew1 | refine below_set ?_ GE284.out) | exact HB.out))) : w.heap.size ≤ gb285)); have n4_ := Aside0.mk ((by rw [hg]; exact (below_size (by repeat (first | (with_reducible first | exact HB.out | apply below_alloc | apply pw_below_drewN | apply below_drew1 | refine below_set ?_ GE284.out) | exact HB.out))) : w.heap.size ≤ gb285)); have n5_ := Aside0.mk ((by rw [hg]; exact Nat.ne_of_lt (blk_lt (g := gb284) (o := .cells #[.int .i64 a0_0, .slice A0_1 l0_1.length c0_1] 30 (0, 0)) (by (with_reducible repeat (first | refine blk_drewN ?_ _ | refine blk_drew ?_ | refine blk_alloc ?_ _)); exact BK284.out)) : gb284 ≠ gb285)); have n6_ := Aside0.mk ((by rw [hg]; exact Nat.ne_of_gt (blk_lt (g := gb284) (o := .cells #[.int .i64 a0_0, .slice A0_1 l0_1.length c0_1] 30 (0, 0)) (by (with_reducible repeat (first | refine blk_drewN ?_ _ | refine blk_drew ?_ | refine blk_alloc ?_ _)); exact BK284.out)) : gb285 ≠ gb284)); clear BK284; clear HB; have BK284 := n0_; have HB := n1_; have BK285 := n2_; have GW285 := n3_; have GE285 := n4_; have NB284_285 := n5_; have NB285_284 := n6_; clear n0_ n1_ n2_ n3_ n4_ n5_ n6_; clear hb hbox hg; have hnb26 := NB284_285.out; have hnc26 := NB285_284.out; have hcz27_0 : w25.cell? ⟨gb284, 0, none⟩ = some (.int .i64 a0_0) := (blk_cell BK284.out 0).trans rfl; have hcz27_1 : w25.cell? ⟨gb284, 1, none⟩ = some (.slice A0_1 l0_1.length c0_1) := (blk_cell BK284.out 1).trans rfl; have hfz27_0 := blk_frozen BK284.out 0; have hfz27_1 := blk_frozen BK284.out 1; have hcz28_0 : w25.cell? ⟨gb285, 0, none⟩ = some (.int .i64 a1_0) := (blk_cell BK285.out 0).trans rfl; have hcz28_1 : w25.cell? ⟨gb285, 1, none⟩ = some (.slice A1_1 l1_1.length c1_1) := (blk_cell BK285.out 1).trans rfl; have hfz28_0 := blk_frozen BK285.out 0; have hfz28_1 := blk_frozen BK285.out 1) | ((with_reducible refine gate_callee (f := 37) rfl ?_); refine goesL_ (some 8) rfl rfl Try.func37 (by kernel_rfl) rfl #[.agg #[.int .i64 a0_0, .slice A0_1 l0_1.length c0_1], .agg #[.int .i64 a1_0, .slice A1_1 l1_1.length c1_1]] rfl (by (try simp only [List.map_toArray, List.map_cons, List.map_nil]); first | done | rfl | (simp only [List.length_drop, List.length_take]; rfl)) ?_; (with_reducible refine (term_Same.calls a0_0 _ _ l0_1 a1_0 _ _ l1_1 false _ ?side1 ?side2 ?side3 ?side4 A3.out).mono ?_); (case side1 => repeat (first | exact (Kd.C_below HR0_1.out HB.out) | (with_reducible refine Kd.C_alloc ?_ _) | (with_reducible refine Kd.C_drewN ?_ _) | (with_reducible refine Kd.C_drew ?_))); (case side2 => exact HC0_1.out); (case side3 => repeat (first | exact (Kd.C_below HR1_1.out HB.out) | (with_reducible refine Kd.C_alloc ?_ _) | (with_reducible refine Kd.C_drewN ?_ _) | (with_reducible refine Kd.C_drew ?_))); (case side4 => exact HC1_1.out); rintro e w29 ⟨rfl, hb⟩; refine ⟨_, rfl, ?_⟩; have n0_ := Aside0.mk (blk_below (g := gb284) (o := .cells #[.int .i64 a0_0, .slice A0_1 l0_1.length c0_1] 30 (0, 0)) (by (with_reducible repeat (first | refine blk_drewN ?_ _ | refine blk_drew ?_ | refine blk_alloc ?_ _)); exact BK284.out) hb); have n1_ := Aside0.mk (blk_below (g := gb285) (o := .cells #[.int .i64 a1_0, .slice A1_1 l1_1.length c1_1] 30 (0, 0)) (by (with_reducible repeat (first | refine blk_drewN ?_ _ | refine blk_drew ?_ | refine blk_alloc ?_ _)); exact BK285.out) hb); have n2_ := Aside0.mk (below_step (by repeat (first | (with_reducible first | exact HB.out | apply below_alloc | apply pw_below_drewN | apply below_drew1 | refine below_set ?_ GE284.out | refine below_set ?_ GE285.out) | exact HB.out)) hb); clear BK284; clear BK285; clear HB; have BK284 := n0_; have BK285 := n1_; have HB := n2_; clear n0_ n1_ n2_; (try clear hb); (try clear hb2); (try clear hk); (try clear hi); have hcz30_0 : w29.cell? ⟨gb284, 0, none⟩ = some (.int .i64 a0_0) := (blk_cell BK284.out 0).trans rfl; have hcz30_1 : w29.cell? ⟨gb284, 1, none⟩ = some (.slice A0_1 l0_1.length c0_1) := (blk_cell BK284.out 1).trans rfl; have hfz30_0 := blk_frozen BK284.out 0; have hfz30_1 := blk_frozen BK284.out 1; have hcz31_0 : w29.cell? ⟨gb285, 0, none⟩ = some (.int .i64 a1_0) := (blk_cell BK285.out 0).trans rfl; have hcz31_1 : w29.cell? ⟨gb285, 1, none⟩ = some (.slice A1_1 l1_1.length c1_1) := (blk_cell BK285.out 1).trans rfl; have hfz31_0 := blk_frozen BK285.out 0; have hfz31_1 := blk_frozen BK285.out 1) | ((with_reducible refine gate_callee (f := 41) rfl ?_); refine goesL_ (some 12) rfl rfl Try.func41 (by kernel_rfl) rfl #[.agg #[.int .i64 a0_0, .slice A0_1 l0_1.length c0_1], .agg #[.int .i64 a1_0, .slice A1_1 l1_1.length c1_1]] rfl (by (try simp only [List.map_toArray, List.map_cons, List.map_nil]); first | done | rfl | (simp only [List.length_drop, List.length_take]; rfl)) ?_; (with_reducible refine (kbo_Greater.calls k a0_0 _ _ l0_1 a1_0 _ _ l1_1 false _ ?side1 ?side2 ?side3 ?side4 A11.out).mono ?_); (case side1 => repeat (first | exact (Kd.C_below HR0_1.out HB.out) | (with_reducible refine Kd.C_alloc ?_ _) | (with_reducible refine Kd.C_drewN ?_ _) | (with_reducible refine Kd.C_drew ?_))); (case side2 => exact HC0_1.out); (case side3 => repeat (first | exact (Kd.C_below HR1_1.out HB.out) | (with_reducible refine Kd.C_alloc ?_ _) | (with_reducible refine Kd.C_drewN ?_ _) | (with_reducible refine Kd.C_drew ?_))); (case side4 => exact HC1_1.out); rintro e w32 ⟨rfl, hb⟩; refine ⟨_, rfl, ?_⟩; have n0_ := Aside0.mk (blk_below (g := gb284) (o := .cells #[.int .i64 a0_0, .slice A0_1 l0_1.length c0_1] 30 (0, 0)) (by (with_reducible repeat (first | refine blk_drewN ?_ _ | refine blk_drew ?_ | refine blk_alloc ?_ _)); exact BK284.out) hb); have n1_ := Aside0.mk (blk_below (g := gb285) (o := .cells #[.int .i64 a1_0, .slice A1_1 l1_1.length c1_1] 30 (0, 0)) (by (with_reducible repeat (first | refine blk_drewN ?_ _ | refine blk_drew ?_ | refine blk_alloc ?_ _)); exact BK285.out) hb); have n2_ := Aside0.mk (below_step (by repeat (first | (with_reducible first | exact HB.out | apply below_alloc | apply pw_below_drewN | apply below_drew1 | refine below_set ?_ GE284.out | refine below_set ?_ GE285.out) | exact HB.out)) hb); clear BK284; clear BK285; clear HB; have BK284 := n0_; have BK285 := n1_; have HB := n2_; clear n0_ n1_ n2_; (try clear hb); (try clear hb2); (try clear hk); (try clear hi); have hcz33_0 : w32.cell? ⟨gb285, 0, none⟩ = some (.int .i64 a1_0) := (blk_cell BK285.out 0).trans rfl; have hcz33_1 : w32.cell? ⟨gb285, 1, none⟩ = some (.slice A1_1 l1_1.length c1_1) := (blk_cell BK285.out 1).trans rfl; have hfz33_0 := blk_frozen BK285.out 0; have hfz33_1 := blk_frozen BK285.out 1; have hcz34_0 : w32.cell? ⟨gb284, 0, none⟩ = some (.int .i64 a0_0) := (blk_cell BK284.out 0).trans rfl; have hcz34_1 : w32.cell? ⟨gb284, 1, none⟩ = some (.slice A0_1 l0_1.length c0_1) := (blk_cell BK284.out 1).trans rfl; have hfz34_0 := blk_frozen BK284.out 0; have hfz34_1 := blk_frozen BK284.out 1) | ((with_reducible refine gate_callee (f := 41) rfl ?_); refine goesL_ (some 16) rfl rfl Try.func41 (by kernel_rfl) rfl #[.agg #[.int .i64 a1_0, .slice A1_1 l1_1.length c1_1], .agg #[.int .i64 a0_0, .slice A0_1 l0_1.length c0_1]] rfl (by (try simp only [List.map_toArray, List.map_cons, List.map_nil]); first | done | rfl | (simp only [List.length_drop, List.length_take]; rfl)) ?_; (with_reducible refine (kbo_Greater.calls k a1_0 _ _ l1_1 a0_0 _ _ l0_1 true _ ?side1 ?side2 ?side3 ?side4 A22.out).mono ?_); (case side1 => repeat (first | exact (Kd.C_below HR1_1.out HB.out) | (with_reducible refine Kd.C_alloc ?_ _) | (with_reducible refine Kd.C_drewN ?_ _) | (with_reducible refine Kd.C_drew ?_))); (case side2 => exact HC1_1.out); (case side3 => repeat (first | exact (Kd.C_below HR0_1.out HB.out) | (with_reducible refine Kd.C_alloc ?_ _) | (with_reducible refine Kd.C_drewN ?_ _) | (with_reducible refine Kd.C_drew ?_))); (case side4 => exact HC0_1.out); rintro e w35 ⟨rfl, hb⟩; refine ⟨_, rfl, ?_⟩; have n0_ := Aside0.mk (blk_below (g := gb284) (o := .cells #[.int .i64 a0_0, .slice A0_1 l0_1.length c0_1] 30 (0, 0)) (by (with_reducible repeat (first | refine blk_drewN ?_ _ | refine blk_drew ?_ | refine blk_alloc ?_ _)); exact BK284.out) hb); have n1_ := Aside0.mk (blk_below (g := gb285) (o := .cells #[.int .i64 a1_0, .slice A1_1 l1_1.length c1_1] 30 (0, 0)) (by (with_reducible repeat (first | refine blk_drewN ?_ _ | refine blk_drew ?_ | refine blk_alloc ?_ _)); exact BK285.out) hb); have n2_ := Aside0.mk (below_step (by repeat (first | (with_reducible first | exact HB.out | apply below_alloc | apply pw_below_drewN | apply below_drew1 | refine below_set ?_ GE284.out | refine below_set ?_ GE285.out) | exact HB.out)) hb); clear BK284; clear BK285; clear HB; have BK284 := n0_; have BK285 := n1_; have HB := n2_; clear n0_ n1_ n2_; (try clear hb); (try clear hb2); (try clear hk); (try clear hi)))
        go_ret
        exact ⟨by first | rfl | (simp [errW_none, errW_some] <;> rfl) | (simp [*, errW_none, errW_some] <;> rfl), by repeat (first | (with_reducible first | exact HB.out | apply below_alloc | apply pw_below_drewN | apply below_drew1 | refine below_set ?_ GE284.out | refine below_set ?_ GE285.out) | exact HB.out)⟩
      · replace c23 := Bool.eq_false_iff.mpr c23
        subst c23
        have H1 : (some 2) = some r := by rw [if_neg (show ¬ (false = true) by decide)] at H; exact H
        clear H
        have H := H1
        clear H1
        obtain rfl := Option.some.inj H
        go_enter Try.func43, Try.ntmps43
        go_wp2_with (first | ((with_reducible refine gate_dst (N := 2) rfl ?_); refine box_event ?hg (N := 2) ?hd (cs := #[.int .i64 a0_0, .slice A0_1 l0_1.length c0_1]) (t := 30) ?hr ?_; (case hd => rfl); (case hg => rfl); (case hr => first | (go_simp; done) | (go_simp; rfl)); intro gb284 hg w36 hbox hb; have n0_ := Aside0.mk (below_step (by repeat (first | (with_reducible first | exact HB.out | apply below_alloc | apply pw_below_drewN | apply below_drew1) | exact HB.out)) hb); have n1_ := Aside0.mk (hbox); have n2_ := Aside0.mk ((by rw [hg]; exact (below_size (by repeat (first | (with_reducible first | exact HB.out | apply below_alloc | apply pw_below_drewN | apply below_drew1) | exact HB.out))) : w.heap.size ≤ gb284)); have n3_ := Aside0.mk ((by rw [hg]; exact (below_size (by repeat (first | (with_reducible first | exact HB.out | apply below_alloc | apply pw_below_drewN | apply below_drew1) | exact HB.out))) : w.heap.size ≤ gb284)); clear HB; have HB := n0_; have BK284 := n1_; have GW284 := n2_; have GE284 := n3_; clear n0_ n1_ n2_ n3_; clear hb hbox hg) | ((with_reducible refine gate_dst (N := 3) rfl ?_); refine box_event ?hg (N := 3) ?hd (cs := #[.int .i64 a1_0, .slice A1_1 l1_1.length c1_1]) (t := 30) ?hr ?_; (case hd => rfl); (case hg => rfl); (case hr => first | (go_simp; done) | (go_simp; rfl)); intro gb285 hg w37 hbox hb; have n0_ := Aside0.mk (blk_below (g := gb284) (o := .cells #[.int .i64 a0_0, .slice A0_1 l0_1.length c0_1] 30 (0, 0)) (by (with_reducible repeat (first | refine blk_drewN ?_ _ | refine blk_drew ?_ | refine blk_alloc ?_ _)); exact BK284.out) hb); have n1_ := Aside0.mk (below_step (by repeat (first | (with_reducible first | exact HB.out | apply below_alloc | apply pw_below_drewN | apply below_drew1 | refine below_set ?_ GE284.out) | exact HB.out)) hb); have n2_ := Aside0.mk (hbox); have n3_ := Aside0.mk ((by rw [hg]; exact (below_size (by repeat (first | (with_reducible first | exact HB.out | apply below_alloc | apply pw_below_drewN | apply below_drew1 | refine below_set ?_ GE284.out) | exact HB.out))) : w.heap.size ≤ gb285)); have n4_ := Aside0.mk ((by rw [hg]; exact (below_size (by repeat (first | (with_reducible first | exact HB.out | apply below_alloc | apply pw_below_drewN | apply below_drew1 | refine below_set ?_ GE284.out) | exact HB.out))) : w.heap.size ≤ gb285)); have n5_ := Aside0.mk ((by rw [hg]; exact Nat.ne_of_lt (blk_lt (g := gb284) (o := .cells #[.int .i64 a0_0, .slice A0_1 l0_1.length c0_1] 30 (0, 0)) (by (with_reducible repeat (first | refine blk_drewN ?_ _ | refine blk_drew ?_ | refine blk_alloc ?_ _)); exact BK284.out)) : gb284 ≠ gb285)); have n6_ := Aside0.mk ((by rw [hg]; exact Nat.ne_of_gt (blk_lt (g := gb284) (o := .cells #[.int .i64 a0_0, .slice A0_1 l0_1.length c0_1] 30 (0, 0)) (by (with_reducible repeat (first | refine blk_drewN ?_ _ | refine blk_drew ?_ | refine blk_alloc ?_ _)); exact BK284.out)) : gb285 ≠ gb284)); clear BK284; clear HB; have BK284 := n0_; have HB := n1_; have BK285 := n2_; have GW285 := n3_; have GE285 := n4_; have NB284_285 := n5_; have NB285_284 := n6_; clear n0_ n1_ n2_ n3_ n4_ n5_ n6_; clear hb hbox hg; have hnb38 := NB284_285.out; have hnc38 := NB285_284.out; have hcz39_0 : w37.cell? ⟨gb284, 0, none⟩ = some (.int .i64 a0_0) := (blk_cell BK284.out 0).trans rfl; have hcz39_1 : w37.cell? ⟨gb284, 1, none⟩ = some (.slice A0_1 l0_1.length c0_1) := (blk_cell BK284.out 1).trans rfl; have hfz39_0 := blk_frozen BK284.out 0; have hfz39_1 := blk_frozen BK284.out 1; have hcz40_0 : w37.cell? ⟨gb285, 0, none⟩ = some (.int .i64 a1_0) := (blk_cell BK285.out 0).trans rfl; have hcz40_1 : w37.cell? ⟨gb285, 1, none⟩ = some (.slice A1_1 l1_1.length c1_1) := (blk_cell BK285.out 1).trans rfl; have hfz40_0 := blk_frozen BK285.out 0; have hfz40_1 := blk_frozen BK285.out 1) | ((with_reducible refine gate_callee (f := 37) rfl ?_); refine goesL_ (some 8) rfl rfl Try.func37 (by kernel_rfl) rfl #[.agg #[.int .i64 a0_0, .slice A0_1 l0_1.length c0_1], .agg #[.int .i64 a1_0, .slice A1_1 l1_1.length c1_1]] rfl (by (try simp only [List.map_toArray, List.map_cons, List.map_nil]); first | done | rfl | (simp only [List.length_drop, List.length_take]; rfl)) ?_; (with_reducible refine (term_Same.calls a0_0 _ _ l0_1 a1_0 _ _ l1_1 false _ ?side1 ?side2 ?side3 ?side4 A3.out).mono ?_); (case side1 => repeat (first | exact (Kd.C_below HR0_1.out HB.out) | (with_reducible refine Kd.C_alloc ?_ _) | (with_reducible refine Kd.C_drewN ?_ _) | (with_reducible refine Kd.C_drew ?_))); (case side2 => exact HC0_1.out); (case side3 => repeat (first | exact (Kd.C_below HR1_1.out HB.out) | (with_reducible refine Kd.C_alloc ?_ _) | (with_reducible refine Kd.C_drewN ?_ _) | (with_reducible refine Kd.C_drew ?_))); (case side4 => exact HC1_1.out); rintro e w41 ⟨rfl, hb⟩; refine ⟨_, rfl, ?_⟩; have n0_ := Aside0.mk (blk_below (g := gb284) (o := .cells #[.int .i64 a0_0, .slice A0_1 l0_1.length c0_1] 30 (0, 0)) (by (with_reducible repeat (first | refine blk_drewN ?_ _ | refine blk_drew ?_ | refine blk_alloc ?_ _)); exact BK284.out) hb); have n1_ := Aside0.mk (blk_below (g := gb285) (o := .cells #[.int .i64 a1_0, .slice A1_1 l1_1.length c1_1] 30 (0, 0)) (by (with_reducible repeat (first | refine blk_drewN ?_ _ | refine blk_drew ?_ | refine blk_alloc ?_ _)); exact BK285.out) hb); have n2_ := Aside0.mk (below_step (by repeat (first | (with_reducible first | exact HB.out | apply below_alloc | apply pw_below_drewN | apply below_drew1 | refine below_set ?_ GE284.out | refine below_set ?_ GE285.out) | exact HB.out)) hb); clear BK284; clear BK285; clear HB; have BK284 := n0_; have BK285 := n1_; have HB := n2_; clear n0_ n1_ n2_; (try clear hb); (try clear hb2); (try clear hk); (try clear hi); have hcz42_0 : w41.cell? ⟨gb284, 0, none⟩ = some (.int .i64 a0_0) := (blk_cell BK284.out 0).trans rfl; have hcz42_1 : w41.cell? ⟨gb284, 1, none⟩ = some (.slice A0_1 l0_1.length c0_1) := (blk_cell BK284.out 1).trans rfl; have hfz42_0 := blk_frozen BK284.out 0; have hfz42_1 := blk_frozen BK284.out 1; have hcz43_0 : w41.cell? ⟨gb285, 0, none⟩ = some (.int .i64 a1_0) := (blk_cell BK285.out 0).trans rfl; have hcz43_1 : w41.cell? ⟨gb285, 1, none⟩ = some (.slice A1_1 l1_1.length c1_1) := (blk_cell BK285.out 1).trans rfl; have hfz43_0 := blk_frozen BK285.out 0; have hfz43_1 := blk_frozen BK285.out 1) | ((with_reducible refine gate_callee (f := 41) rfl ?_); refine goesL_ (some 12) rfl rfl Try.func41 (by kernel_rfl) rfl #[.agg #[.int .i64 a0_0, .slice A0_1 l0_1.length c0_1], .agg #[.int .i64 a1_0, .slice A1_1 l1_1.length c1_1]] rfl (by (try simp only [List.map_toArray, List.map_cons, List.map_nil]); first | done | rfl | (simp only [List.length_drop, List.length_take]; rfl)) ?_; (with_reducible refine (kbo_Greater.calls k a0_0 _ _ l0_1 a1_0 _ _ l1_1 false _ ?side1 ?side2 ?side3 ?side4 A11.out).mono ?_); (case side1 => repeat (first | exact (Kd.C_below HR0_1.out HB.out) | (with_reducible refine Kd.C_alloc ?_ _) | (with_reducible refine Kd.C_drewN ?_ _) | (with_reducible refine Kd.C_drew ?_))); (case side2 => exact HC0_1.out); (case side3 => repeat (first | exact (Kd.C_below HR1_1.out HB.out) | (with_reducible refine Kd.C_alloc ?_ _) | (with_reducible refine Kd.C_drewN ?_ _) | (with_reducible refine Kd.C_drew ?_))); (case side4 => exact HC1_1.out); rintro e w44 ⟨rfl, hb⟩; refine ⟨_, rfl, ?_⟩; have n0_ := Aside0.mk (blk_below (g := gb284) (o := .cells #[.int .i64 a0_0, .slice A0_1 l0_1.length c0_1] 30 (0, 0)) (by (with_reducible repeat (first | refine blk_drewN ?_ _ | refine blk_drew ?_ | refine blk_alloc ?_ _)); exact BK284.out) hb); have n1_ := Aside0.mk (blk_below (g := gb285) (o := .cells #[.int .i64 a1_0, .slice A1_1 l1_1.length c1_1] 30 (0, 0)) (by (with_reducible repeat (first | refine blk_drewN ?_ _ | refine blk_drew ?_ | refine blk_alloc ?_ _)); exact BK285.out) hb); have n2_ := Aside0.mk (below_step (by repeat (first | (with_reducible first | exact HB.out | apply below_alloc | apply pw_below_drewN | apply below_drew1 | refine below_set ?_ GE284.out | refine below_set ?_ GE285.out) | exact HB.out)) hb); clear BK284; clear BK285; clear HB; have BK284 := n0_; have BK285 := n1_; have HB := n2_; clear n0_ n1_ n2_; (try clear hb); (try clear hb2); (try clear hk); (try clear hi); have hcz45_0 : w44.cell? ⟨gb285, 0, none⟩ = some (.int .i64 a1_0) := (blk_cell BK285.out 0).trans rfl; have hcz45_1 : w44.cell? ⟨gb285, 1, none⟩ = some (.slice A1_1 l1_1.length c1_1) := (blk_cell BK285.out 1).trans rfl; have hfz45_0 := blk_frozen BK285.out 0; have hfz45_1 := blk_frozen BK285.out 1; have hcz46_0 : w44.cell? ⟨gb284, 0, none⟩ = some (.int .i64 a0_0) := (blk_cell BK284.out 0).trans rfl; have hcz46_1 : w44.cell? ⟨gb284, 1, none⟩ = some (.slice A0_1 l0_1.length c0_1) := (blk_cell BK284.out 1).trans rfl; have hfz46_0 := blk_frozen BK284.out 0; have hfz46_1 := blk_frozen BK284.out 1) | ((with_reducible refine gate_callee (f := 41) rfl ?_); refine goesL_ (some 16) rfl rfl Try.func41 (by kernel_rfl) rfl #[.agg #[.int .i64 a1_0, .slice A1_1 l1_1.length c1_1], .agg #[.int .i64 a0_0, .slice A0_1 l0_1.length c0_1]] rfl (by (try simp only [List.map_toArray, List.map_cons, List.map_nil]); first | done | rfl | (simp only [List.length_drop, List.length_take]; rfl)) ?_; (with_reducible refine (kbo_Greater.calls k a1_0 _ _ l1_1 a0_0 _ _ l0_1 false _ ?side1 ?side2 ?side3 ?side4 A22.out).mono ?_); (case side1 => repeat (first | exact (Kd.C_below HR1_1.out HB.out) | (with_reducible refine Kd.C_alloc ?_ _) | (with_reducible refine Kd.C_drewN ?_ _) | (with_reducible refine Kd.C_drew ?_))); (case side2 => exact HC1_1.out); (case side3 => repeat (first | exact (Kd.C_below HR0_1.out HB.out) | (with_reducible refine Kd.C_alloc ?_ _) | (with_reducible refine Kd.C_drewN ?_ _) | (with_reducible refine Kd.C_drew ?_))); (case side4 => exact HC0_1.out); rintro e w47 ⟨rfl, hb⟩; refine ⟨_, rfl, ?_⟩; have n0_ := Aside0.mk (blk_below (g := gb284) (o := .cells #[.int .i64 a0_0, .slice A0_1 l0_1.length c0_1] 30 (0, 0)) (by (with_reducible repeat (first | refine blk_drewN ?_ _ | refine blk_drew ?_ | refine blk_alloc ?_ _)); exact BK284.out) hb); have n1_ := Aside0.mk (blk_below (g := gb285) (o := .cells #[.int .i64 a1_0, .slice A1_1 l1_1.length c1_1] 30 (0, 0)) (by (with_reducible repeat (first | refine blk_drewN ?_ _ | refine blk_drew ?_ | refine blk_alloc ?_ _)); exact BK285.out) hb); have n2_ := Aside0.mk (below_step (by repeat (first | (with_reducible first | exact HB.out | apply below_alloc | apply pw_below_drewN | apply below_drew1 | refine below_set ?_ GE284.out | refine below_set ?_ GE285.out) | exact HB.out)) hb); clear BK284; clear BK285; clear HB; have BK284 := n0_; have BK285 := n1_; have HB := n2_; clear n0_ n1_ n2_; (try clear hb); (try clear hb2); (try clear hk); (try clear hi)))
        go_ret
        exact ⟨by first | rfl | (simp [errW_none, errW_some] <;> rfl) | (simp [*, errW_none, errW_some] <;> rfl), by repeat (first | (with_reducible first | exact HB.out | apply below_alloc | apply pw_below_drewN | apply below_drew1 | refine below_set ?_ GE284.out | refine below_set ?_ GE285.out) | exact HB.out)⟩
end Go.Proofs.Ytpfddihcikiofaa.P
end

section
namespace Go.Proofs.Ytpfddihcikiofaa.P
open Go.RowKit Go.Proofs.YtpfddihcikiofaaW.PrintWords Go.Proofs.YtpfddihcikiofaaW.PrintLast Go.Proofs.YtpfddihcikiofaaW.PrintMore
attribute [local go_sem] max2_int min2_int max_two min_two max_three min_three max_four min_four
set_option linter.unusedVariables false
set_option linter.unusedSimpArgs false
def soriteslaw10_alive.f (k : Nat)  : Option (Bool) := (kbo_Greater.f k 4 (([(⟨(-1), ([] : List (S30))⟩ : S30), (⟨1, ([] : List (S30))⟩ : S30)] : List (S30))) 3 (([(⟨(-1), ([] : List (S30))⟩ : S30)] : List (S30)))).bind fun t295 => (if t295 = true then ((kbo_Compare.f k (-1) ([] : List (S30)) 1 ([] : List (S30))).bind fun t296 => (some (t296 == 2))) else (some false))
set_option maxHeartbeats 8000000 in
set_option maxRecDepth 100000 in
theorem soriteslaw10_alive.calls (k : Nat)  (r : Bool) (w : World) (h : soriteslaw10_alive.f k  = some r) :
    Calls Try.prog 40 #[] w fun e w' => e = .returned (.bool r) ∧ Below w.heap.size w w' := by
  have hu30 := Try.underlying30
  have HB := Aside0.mk (Below.refl w.heap.size w)
  have H : ((kbo_Greater.f k 4 (([(⟨(-1), ([] : List (S30))⟩ : S30), (⟨1, ([] : List (S30))⟩ : S30)] : List (S30))) 3 (([(⟨(-1), ([] : List (S30))⟩ : S30)] : List (S30)))).bind fun t295 => (if t295 = true then ((kbo_Compare.f k (-1) ([] : List (S30)) 1 ([] : List (S30))).bind fun t296 => (some (t296 == 2))) else (some false))) = some r := h
  clear h
  obtain ⟨y289, hy289⟩ : ∃ y_ : List (S30), y_ = (([(⟨(-1), ([] : List (S30))⟩ : S30), (⟨1, ([] : List (S30))⟩ : S30)] : List (S30))) := ⟨_, rfl⟩
  replace H : ((kbo_Greater.f k 4 y289 3 (([(⟨(-1), ([] : List (S30))⟩ : S30)] : List (S30)))).bind fun t295 => (if t295 = true then ((kbo_Compare.f k (-1) ([] : List (S30)) 1 ([] : List (S30))).bind fun t296 => (some (t296 == 2))) else (some false))) = some r := by first | (rw [hy289]; with_reducible exact H) | (have H2_ := (Option.bind_some _ _).symm.trans H; rw [hy289]; with_reducible exact H2_) | (have H2_ := (Option.bind_some _ _).symm.trans H; with_reducible exact H2_) | with_reducible exact H | (rw [hy289]; exact H) | exact H
  have Ny289 := Aside0.mk hy289
  clear hy289
  obtain ⟨y292, hy292⟩ : ∃ y_ : List (S30), y_ = (([(⟨(-1), ([] : List (S30))⟩ : S30)] : List (S30))) := ⟨_, rfl⟩
  replace H : ((kbo_Greater.f k 4 y289 3 y292).bind fun t295 => (if t295 = true then ((kbo_Compare.f k (-1) ([] : List (S30)) 1 ([] : List (S30))).bind fun t296 => (some (t296 == 2))) else (some false))) = some r := by first | (rw [hy292]; with_reducible exact H) | (have H2_ := (Option.bind_some _ _).symm.trans H; rw [hy292]; with_reducible exact H2_) | (have H2_ := (Option.bind_some _ _).symm.trans H; with_reducible exact H2_) | with_reducible exact H | (rw [hy292]; exact H) | exact H
  have Ny292 := Aside0.mk hy292
  clear hy292
  replace H := Option.bind_eq_some_iff.mp H
  obtain ⟨t295, A10, H⟩ := H
  replace H : (if t295 = true then ((kbo_Compare.f k (-1) ([] : List (S30)) 1 ([] : List (S30))).bind fun t296 => (some (t296 == 2))) else (some false)) = some r := H
  have A1 := Aside0.mk A10
  clear A10
  by_cases c2 : t295 = true
  · subst c2
    have H1 : ((kbo_Compare.f k (-1) ([] : List (S30)) 1 ([] : List (S30))).bind fun t296 => (some (t296 == 2))) = some r := by rw [if_pos rfl] at H; exact H
    clear H
    have H := H1
    clear H1
    replace H := Option.bind_eq_some_iff.mp H
    obtain ⟨t296, A30, H⟩ := H
    replace H : (some (t296 == 2)) = some r := H
    have A3 := Aside0.mk A30
    clear A30
    obtain rfl := Option.some.inj H
    go_enter Try.func40, Try.ntmps40
    go_wp2_with (first | ((with_reducible refine gate_dst (N := 3) rfl ?_); refine Kd.R_lit k30 _ 30 ?hg (N := 3) ?hd (xs := ([(⟨(-1), ([] : List (S30))⟩ : S30), (⟨1, ([] : List (S30))⟩ : S30)] : List (S30))) (inner := [.int .i64 (-1), .slice none 0 0, .int .i64 1, .slice none 0 0]) (ok := fun _ => True) (okp := fun _ => True) ?hr ?hp (fun _ hk => hk) trivial (Below.refl _ _) (Nat.le_refl _) (by simp) ?_; (case hd => rfl); (case hg => rfl); (case hr => first | (go_simp; done) | (go_simp; rfl)); (case hp => exact (Reps.c2 (show Kd.M k30 _ _ _ (⟨(-1), ([] : List (S30))⟩ : S30) [.int .i64 (-1), .slice none 0 0] from (k30_mkM _ _ _ (⟨(-1), ([] : List (S30))⟩ : S30) (Kd.R_nil _ _ _ _ _))) (Reps.c2 (show Kd.M k30 _ _ _ (⟨1, ([] : List (S30))⟩ : S30) [.int .i64 1, .slice none 0 0] from (k30_mkM _ _ _ (⟨1, ([] : List (S30))⟩ : S30) (Kd.R_nil _ _ _ _ _))) (Reps.none _ _)))); intro v290 w4 ho5 hb hg_ hnew_; clear hg_ hnew_; (first | rw [← Ny289.out] at ho5 | (simp only [Int.reduceToNat] at ho5; rw [← Ny289.out] at ho5)); have n0_ := Aside0.mk (Kd.R_lower ho5 (below_size (by repeat (first | (with_reducible first | exact HB.out | apply below_alloc | apply pw_below_drewN | apply below_drew1) | exact HB.out)))); have n1_ := Aside0.mk (below_step (by repeat (first | (with_reducible first | exact HB.out | apply below_alloc | apply pw_below_drewN | apply below_drew1) | exact HB.out)) hb); clear HB; have HO291 := n0_; have HB := n1_; clear n0_ n1_; clear hb ho5; obtain ⟨Ao6, co6, eo6⟩ := Kd.R_slice HO291.out; subst eo6) | ((with_reducible refine gate_dst (N := 6) rfl ?_); refine Kd.R_lit k30 _ 30 ?hg (N := 6) ?hd (xs := ([(⟨(-1), ([] : List (S30))⟩ : S30)] : List (S30))) (inner := [.int .i64 (-1), .slice none 0 0]) (ok := fun _ => True) (okp := fun _ => True) ?hr ?hp (fun _ hk => hk) trivial (Below.refl _ _) (Nat.le_refl _) (by simp) ?_; (case hd => rfl); (case hg => rfl); (case hr => first | (go_simp; done) | (go_simp; rfl)); (case hp => exact (Reps.c2 (show Kd.M k30 _ _ _ (⟨(-1), ([] : List (S30))⟩ : S30) [.int .i64 (-1), .slice none 0 0] from (k30_mkM _ _ _ (⟨(-1), ([] : List (S30))⟩ : S30) (Kd.R_nil _ _ _ _ _))) (Reps.none _ _))); intro v293 w7 ho8 hb hg_ hnew_; clear hg_ hnew_; (first | rw [← Ny292.out] at ho8 | (simp only [Int.reduceToNat] at ho8; rw [← Ny292.out] at ho8)); have n0_ := Aside0.mk (Kd.R_elder' (by (with_reducible repeat (first | apply Kd.R_alloc | apply Kd.R_drewN | apply Kd.R_drew)); exact HO291.out) (Kd.R_base ho8) hb); have n1_ := Aside0.mk (Kd.R_lower (Kd.R_new' ho8 (Kd.R_lt (by (with_reducible repeat (first | apply Kd.R_alloc | apply Kd.R_drewN | apply Kd.R_drew)); exact HO291.out))) (below_size (by repeat (first | (with_reducible first | exact HB.out | apply below_alloc | apply pw_below_drewN | apply below_drew1) | exact HB.out)))); have n2_ := Aside0.mk (below_step (by repeat (first | (with_reducible first | exact HB.out | apply below_alloc | apply pw_below_drewN | apply below_drew1) | exact HB.out)) hb); clear HO291; clear HB; have HO291 := n0_; have HO294 := n1_; have HB := n2_; clear n0_ n1_ n2_; clear hb ho8; obtain ⟨Ao9, co9, eo9⟩ := Kd.R_slice HO294.out; subst eo9) | ((with_reducible refine gate_callee (f := 41) rfl ?_); refine goesL_ (some 8) rfl rfl Try.func41 (by kernel_rfl) rfl #[.agg #[.int .i64 4, .slice Ao6 y289.length co6], .agg #[.int .i64 3, .slice Ao9 y292.length co9]] rfl (by (try simp only [List.map_toArray, List.map_cons, List.map_nil]); first | done | rfl | (simp only [List.length_drop, List.length_take]; rfl)) ?_; (with_reducible refine (kbo_Greater.calls k 4 _ _ y289 3 _ _ y292 true _ ?side1 ?side2 ?side3 ?side4 A1.out).mono ?_); (case side1 => repeat (first | exact (Kd.R_reads' HO291.out).2.2 | (with_reducible refine Kd.C_alloc ?_ _) | (with_reducible refine Kd.C_drewN ?_ _) | (with_reducible refine Kd.C_drew ?_))); (case side2 => exact (Kd.R_reads' HO291.out).2.1); (case side3 => repeat (first | exact (Kd.R_reads' HO294.out).2.2 | (with_reducible refine Kd.C_alloc ?_ _) | (with_reducible refine Kd.C_drewN ?_ _) | (with_reducible refine Kd.C_drew ?_))); (case side4 => exact (Kd.R_reads' HO294.out).2.1); rintro e w10 ⟨rfl, hb⟩; refine ⟨_, rfl, ?_⟩; have n0_ := Aside0.mk (Kd.R_below (by (with_reducible repeat (first | apply Kd.R_alloc | apply Kd.R_drewN | apply Kd.R_drew)); exact HO291.out) hb); have n1_ := Aside0.mk (Kd.R_below (by (with_reducible repeat (first | apply Kd.R_alloc | apply Kd.R_drewN | apply Kd.R_drew)); exact HO294.out) hb); have n2_ := Aside0.mk (below_step (by repeat (first | (with_reducible first | exact HB.out | apply below_alloc | apply pw_below_drewN | apply below_drew1) | exact HB.out)) hb); clear HO291; clear HO294; clear HB; have HO291 := n0_; have HO294 := n1_; have HB := n2_; clear n0_ n1_ n2_; (try clear hb); (try clear hb2); (try clear hk); (try clear hi)) | (go_at_call 43; (refine (kbo_Compare.calls k (-1) _ _ ([] : List (S30)) 1 _ _ ([] : List (S30)) t296 _ ?side1 ?side2 ?side3 ?side4 A3.out).mono ?_); (case side1 => exact Kd.C_nil _ _); (case side2 => exact Nat.le_refl _); (case side3 => exact Kd.C_nil _ _); (case side4 => exact Nat.le_refl _); rintro e w11 ⟨rfl, hb⟩; have n0_ := Aside0.mk (Kd.R_below (by (with_reducible repeat (first | apply Kd.R_alloc | apply Kd.R_drewN | apply Kd.R_drew)); exact HO291.out) hb); have n1_ := Aside0.mk (Kd.R_below (by (with_reducible repeat (first | apply Kd.R_alloc | apply Kd.R_drewN | apply Kd.R_drew)); exact HO294.out) hb); have n2_ := Aside0.mk (below_step (by repeat (first | (with_reducible first | exact HB.out | apply below_alloc | apply pw_below_drewN | apply below_drew1) | exact HB.out)) hb); clear HO291; clear HO294; clear HB; have HO291 := n0_; have HO294 := n1_; have HB := n2_; clear n0_ n1_ n2_; (try clear hb); (try clear hb2); (try clear hk); (try clear hi)))
    go_ret
    exact ⟨by first | rfl | (simp [errW_none, errW_some] <;> rfl) | (simp [*, errW_none, errW_some] <;> rfl), by repeat (first | (with_reducible first | exact HB.out | apply below_alloc | apply pw_below_drewN | apply below_drew1) | exact HB.out)⟩
  · replace c2 := Bool.eq_false_iff.mpr c2
    subst c2
    have H1 : (some false) = some r := by rw [if_neg (show ¬ (false = true) by decide)] at H; exact H
    clear H
    have H := H1
    clear H1
    obtain rfl := Option.some.inj H
    go_enter Try.func40, Try.ntmps40
    go_wp2_with (first | ((with_reducible refine gate_dst (N := 3) rfl ?_); refine Kd.R_lit k30 _ 30 ?hg (N := 3) ?hd (xs := ([(⟨(-1), ([] : List (S30))⟩ : S30), (⟨1, ([] : List (S30))⟩ : S30)] : List (S30))) (inner := [.int .i64 (-1), .slice none 0 0, .int .i64 1, .slice none 0 0]) (ok := fun _ => True) (okp := fun _ => True) ?hr ?hp (fun _ hk => hk) trivial (Below.refl _ _) (Nat.le_refl _) (by simp) ?_; (case hd => rfl); (case hg => rfl); (case hr => first | (go_simp; done) | (go_simp; rfl)); (case hp => exact (Reps.c2 (show Kd.M k30 _ _ _ (⟨(-1), ([] : List (S30))⟩ : S30) [.int .i64 (-1), .slice none 0 0] from (k30_mkM _ _ _ (⟨(-1), ([] : List (S30))⟩ : S30) (Kd.R_nil _ _ _ _ _))) (Reps.c2 (show Kd.M k30 _ _ _ (⟨1, ([] : List (S30))⟩ : S30) [.int .i64 1, .slice none 0 0] from (k30_mkM _ _ _ (⟨1, ([] : List (S30))⟩ : S30) (Kd.R_nil _ _ _ _ _))) (Reps.none _ _)))); intro v290 w12 ho13 hb hg_ hnew_; clear hg_ hnew_; (first | rw [← Ny289.out] at ho13 | (simp only [Int.reduceToNat] at ho13; rw [← Ny289.out] at ho13)); have n0_ := Aside0.mk (Kd.R_lower ho13 (below_size (by repeat (first | (with_reducible first | exact HB.out | apply below_alloc | apply pw_below_drewN | apply below_drew1) | exact HB.out)))); have n1_ := Aside0.mk (below_step (by repeat (first | (with_reducible first | exact HB.out | apply below_alloc | apply pw_below_drewN | apply below_drew1) | exact HB.out)) hb); clear HB; have HO291 := n0_; have HB := n1_; clear n0_ n1_; clear hb ho13; obtain ⟨Ao14, co14, eo14⟩ := Kd.R_slice HO291.out; subst eo14) | ((with_reducible refine gate_dst (N := 6) rfl ?_); refine Kd.R_lit k30 _ 30 ?hg (N := 6) ?hd (xs := ([(⟨(-1), ([] : List (S30))⟩ : S30)] : List (S30))) (inner := [.int .i64 (-1), .slice none 0 0]) (ok := fun _ => True) (okp := fun _ => True) ?hr ?hp (fun _ hk => hk) trivial (Below.refl _ _) (Nat.le_refl _) (by simp) ?_; (case hd => rfl); (case hg => rfl); (case hr => first | (go_simp; done) | (go_simp; rfl)); (case hp => exact (Reps.c2 (show Kd.M k30 _ _ _ (⟨(-1), ([] : List (S30))⟩ : S30) [.int .i64 (-1), .slice none 0 0] from (k30_mkM _ _ _ (⟨(-1), ([] : List (S30))⟩ : S30) (Kd.R_nil _ _ _ _ _))) (Reps.none _ _))); intro v293 w15 ho16 hb hg_ hnew_; clear hg_ hnew_; (first | rw [← Ny292.out] at ho16 | (simp only [Int.reduceToNat] at ho16; rw [← Ny292.out] at ho16)); have n0_ := Aside0.mk (Kd.R_elder' (by (with_reducible repeat (first | apply Kd.R_alloc | apply Kd.R_drewN | apply Kd.R_drew)); exact HO291.out) (Kd.R_base ho16) hb); have n1_ := Aside0.mk (Kd.R_lower (Kd.R_new' ho16 (Kd.R_lt (by (with_reducible repeat (first | apply Kd.R_alloc | apply Kd.R_drewN | apply Kd.R_drew)); exact HO291.out))) (below_size (by repeat (first | (with_reducible first | exact HB.out | apply below_alloc | apply pw_below_drewN | apply below_drew1) | exact HB.out)))); have n2_ := Aside0.mk (below_step (by repeat (first | (with_reducible first | exact HB.out | apply below_alloc | apply pw_below_drewN | apply below_drew1) | exact HB.out)) hb); clear HO291; clear HB; have HO291 := n0_; have HO294 := n1_; have HB := n2_; clear n0_ n1_ n2_; clear hb ho16; obtain ⟨Ao17, co17, eo17⟩ := Kd.R_slice HO294.out; subst eo17) | ((with_reducible refine gate_callee (f := 41) rfl ?_); refine goesL_ (some 8) rfl rfl Try.func41 (by kernel_rfl) rfl #[.agg #[.int .i64 4, .slice Ao14 y289.length co14], .agg #[.int .i64 3, .slice Ao17 y292.length co17]] rfl (by (try simp only [List.map_toArray, List.map_cons, List.map_nil]); first | done | rfl | (simp only [List.length_drop, List.length_take]; rfl)) ?_; (with_reducible refine (kbo_Greater.calls k 4 _ _ y289 3 _ _ y292 false _ ?side1 ?side2 ?side3 ?side4 A1.out).mono ?_); (case side1 => repeat (first | exact (Kd.R_reads' HO291.out).2.2 | (with_reducible refine Kd.C_alloc ?_ _) | (with_reducible refine Kd.C_drewN ?_ _) | (with_reducible refine Kd.C_drew ?_))); (case side2 => exact (Kd.R_reads' HO291.out).2.1); (case side3 => repeat (first | exact (Kd.R_reads' HO294.out).2.2 | (with_reducible refine Kd.C_alloc ?_ _) | (with_reducible refine Kd.C_drewN ?_ _) | (with_reducible refine Kd.C_drew ?_))); (case side4 => exact (Kd.R_reads' HO294.out).2.1); rintro e w18 ⟨rfl, hb⟩; refine ⟨_, rfl, ?_⟩; have n0_ := Aside0.mk (Kd.R_below (by (with_reducible repeat (first | apply Kd.R_alloc | apply Kd.R_drewN | apply Kd.R_drew)); exact HO291.out) hb); have n1_ := Aside0.mk (Kd.R_below (by (with_reducible repeat (first | apply Kd.R_alloc | apply Kd.R_drewN | apply Kd.R_drew)); exact HO294.out) hb); have n2_ := Aside0.mk (below_step (by repeat (first | (with_reducible first | exact HB.out | apply below_alloc | apply pw_below_drewN | apply below_drew1) | exact HB.out)) hb); clear HO291; clear HO294; clear HB; have HO291 := n0_; have HO294 := n1_; have HB := n2_; clear n0_ n1_ n2_; (try clear hb); (try clear hb2); (try clear hk); (try clear hi)))
    go_ret
    exact ⟨by first | rfl | (simp [errW_none, errW_some] <;> rfl) | (simp [*, errW_none, errW_some] <;> rfl), by repeat (first | (with_reducible first | exact HB.out | apply below_alloc | apply pw_below_drewN | apply below_drew1) | exact HB.out)⟩
end Go.Proofs.Ytpfddihcikiofaa.P
end

section
namespace Go.Proofs.Ytpfddihcikiofaa.P
open Go.RowKit Go.Proofs.YtpfddihcikiofaaW.PrintWords Go.Proofs.YtpfddihcikiofaaW.PrintLast Go.Proofs.YtpfddihcikiofaaW.PrintMore
set_option linter.unusedVariables false
set_option linter.unusedSimpArgs false
theorem rdi_at (l : List Int) (k : Nat) (h : k < l.length) : rd l (k : Int) = l[k] := by
  unfold rd
  simp [List.getD, List.getElem?_eq_getElem h]
mutual
def gtT : S30 → S30 → Bool
  | ⟨f, l⟩, ⟨g, m⟩ => covT ⟨f, l⟩ ⟨g, m⟩ && (if (nodes ⟨f, l⟩).length = (nodes ⟨g, m⟩).length then (if f < 0 ∨ g < 0 then false else if f = g then (if l.length = m.length then gtTs l m else decide (m.length < l.length)) else decide (g < f)) else decide ((nodes ⟨g, m⟩).length < (nodes ⟨f, l⟩).length))
def gtTs : List S30 → List S30 → Bool
  | [], _ => false
  | _ :: _, [] => false
  | x :: l, y :: m => if cmpT x y = 0 then gtTs l m else gtT x y
end
theorem gtTs_drop (l m : List S30) (k : Nat) (hl : k < l.length) (hm : k < m.length) : gtTs (l.drop k) (m.drop k) = if cmpT l[k] m[k] = 0 then gtTs (l.drop (k + 1)) (m.drop (k + 1)) else gtT l[k] m[k] := by
  rw [List.drop_eq_getElem_cons hl, List.drop_eq_getElem_cons hm, gtTs]
def kcmp (a b : S30) : Int := if cmpT a b = 0 then 0 else if gtT a b = true then 1 else if gtT b a = true then -1 else 2
theorem orI2_f (a b : Int) : Ev (fun k => cmp_Or_int.f k [a, b]) (if a = 0 then b else a) := by
  refine ⟨3, fun k hk => ?_⟩
  obtain ⟨n, rfl⟩ : ∃ n, k = n + 3 := ⟨k - 3, by omega⟩
  simp only [cmp_Or_int.f, cmp_Or_int.l0, rd, List.length_cons, List.length_nil, wrap64]
  by_cases ha : a = 0
  · by_cases hb : b = 0
    · simp [ha, hb]
    · simp [ha, hb]
  · simp [ha]
theorem Size_fit {t : S30} (h : fit t) : term_Size.f t.f0 t.f1 = some ((nodes t).length : Int) := Size_is (by have := h.1; omega)
theorem fitB_of {t : S30} (h : fit t) : fitB t = true := (fitB_iff t).2 h
theorem Cov_of {a b : S30} (ha : fit a) (hb : fit b) : kbo_Covers.f a.f0 a.f1 b.f0 b.f1 = some (covT a b) := by
  unfold kbo_Covers.f
  rw [S30.eta, S30.eta, fitB_of ha, fitB_of hb]
  rfl
theorem KGreater_spec : ∀ a b : S30, fit a → fit b → Ev (fun k => kbo_Greater.f k a.f0 a.f1 b.f0 b.f1) (gtT a b) := by
  refine S30.ind ?_
  intro f l ih b ha hb
  obtain ⟨g, m⟩ := b
  have hsa := Size_fit ha
  have hsb := Size_fit hb
  have hcv := Cov_of ha hb
  simp only [] at hsa hsb hcv
  rw [gtT]
  by_cases hc : covT ⟨f, l⟩ ⟨g, m⟩ = true
  · rw [hc, Bool.true_and]
    rw [hc] at hcv
    by_cases hn : (nodes ⟨f, l⟩).length = (nodes ⟨g, m⟩).length
    · rw [if_pos hn]
      have hstep : ∀ k, kbo_Greater.f (k + 1) f l g m = kbo_Greater.j0 k (decide (f < 0 ∨ g < 0)) f l g m := fun k => by
        rw [kbo_Greater.f, hcv]
        simp only [Option.bind_some, if_true, hsa, hsb, cmpI_f]
        rw [hn, cmpI_self, if_pos rfl]
        by_cases hf : f < 0
        · rw [if_pos hf, decide_eq_true (.inl hf)]
        · rw [if_neg hf]
          by_cases hg : g < 0
          · rw [decide_eq_true hg, decide_eq_true (.inr hg)]
          · rw [decide_eq_false hg, decide_eq_false (by omega)]
      refine Ev.step (f := fun k => kbo_Greater.j0 k (decide (f < 0 ∨ g < 0)) f l g m) hstep ?_
      by_cases hv : f < 0 ∨ g < 0
      · rw [if_pos hv, decide_eq_true hv]
        exact Ev.step (f := fun _ => some false) (fun k => by rw [kbo_Greater.j0, if_pos rfl]) (Ev.now _)
      · rw [if_neg hv, decide_eq_false hv]
        refine Ev.step (f := fun k => (cmp_Or_int.f k [cmpI f g, cmpI l.length m.length]).bind fun t => if t = 0 then kbo_Greater.l0 k l (l.length : Int) 0 g m else some (decide (t > 0))) (fun k => by rw [kbo_Greater.j0, if_neg (by decide)]; simp only [cmpI_f, Option.bind_some]) (Ev.bind (orI2_f _ _) ?_)
        by_cases hfg : f = g
        · subst hfg
          rw [if_pos rfl, cmpI_self, if_pos rfl]
          have hf : ¬ f < 0 := fun h => hv (.inl h)
          obtain ⟨hll, hsub⟩ := fit_sub hf ha
          obtain ⟨hml, hsubm⟩ := fit_sub hf hb
          by_cases hlm : l.length = m.length
          · rw [if_pos hlm, hlm, cmpI_self]
            simp only [if_true]
            have key : ∀ n i, l.length - i = n → i ≤ l.length → Ev (fun k => kbo_Greater.l0 k l (m.length : Int) (i : Int) f m) (gtTs (l.drop i) (m.drop i)) := by
              intro n
              induction n with
              | zero =>
                intro i hi hle
                refine Ev.step (f := fun _ => some false) (fun k => by rw [kbo_Greater.l0, if_neg (by omega)]) ?_
                rw [List.drop_of_length_le (by omega), gtTs]; exact Ev.now _
              | succ n ihn =>
                intro i hi hle
                have hlt : i < l.length := by omega
                have hltm : i < m.length := by omega
                have hmem := List.getElem_mem hlt
                refine Ev.step (f := fun k => if (cmpT l[i] m[i] == 0) = true then kbo_Greater.l0 k l (m.length : Int) ((i + 1 : Nat) : Int) f m else (kbo_Greater.f k l[i].f0 l[i].f1 m[i].f0 m[i].f1).bind fun t => some t) (fun k => ?_) ?_
                · rw [kbo_Greater.l0, if_pos (by omega), if_pos (by omega), if_pos (by omega), if_pos (by omega), rdC_at l i hlt, rdC_at m i hltm, wsucc i l.length hlt (by omega), Same_of]
                  rfl
                · rw [gtTs_drop l m i hlt hltm]
                  by_cases h0 : cmpT l[i] m[i] = 0
                  · simp only [h0, beq_self_eq_true, if_true]
                    exact ihn (i + 1) (by omega) (by omega)
                  · rw [if_neg h0]
                    have : (cmpT l[i] m[i] == 0) = false := by simpa using h0
                    simp only [this, Bool.false_eq_true, if_false]
                    exact Ev.bind (ih l[i] hmem m[i] (hsub _ hmem) (hsubm _ (List.getElem_mem hltm))) (Ev.now _)
            have := key l.length 0 rfl (by omega)
            simpa using this
          · rw [if_neg hlm]
            have h1 : cmpI (l.length : Int) m.length ≠ 0 := cmpI_ne (by omega)
            simp only [if_neg h1]
            have : decide (cmpI (l.length : Int) m.length > 0) = decide (m.length < l.length) := by
              rw [decide_eq_decide]
              unfold cmpI
              (repeat' split) <;> omega
            rw [this]; exact Ev.now _
        · rw [if_neg hfg]
          have h1 := cmpI_ne hfg
          simp only [if_neg h1]
          have : decide (cmpI f g > 0) = decide (g < f) := by
            rw [decide_eq_decide]
            unfold cmpI
            (repeat' split) <;> omega
          rw [this]; exact Ev.now _
    · rw [if_neg hn]
      refine Ev.step (f := fun _ => some (decide ((nodes ⟨g, m⟩).length < (nodes ⟨f, l⟩).length))) (fun k => ?_) (Ev.now _)
      rw [kbo_Greater.f, hcv]
      simp only [Option.bind_some, if_true, hsa, hsb, cmpI_f]
      have h1 : cmpI ((nodes ⟨f, l⟩).length : Int) (nodes ⟨g, m⟩).length ≠ 0 := cmpI_ne (by omega)
      rw [if_neg h1]
      congr 1
      rw [decide_eq_decide]
      unfold cmpI
      (repeat' split) <;> omega
  · have hcf : covT ⟨f, l⟩ ⟨g, m⟩ = false := by simpa using hc
    rw [hcf, Bool.false_and]
    rw [hcf] at hcv
    refine Ev.step (f := fun _ => some false) (fun k => ?_) (Ev.now _)
    rw [kbo_Greater.f, hcv]
    rfl
theorem cmp_len : ∀ a b : S30, cmpT a b = 0 → (nodes a).length = (nodes b).length := by
  refine S30.ind ?_
  intro f l ih b h
  obtain ⟨g, m⟩ := b
  have hfg : f = g := by
    rcases Decidable.em (f = g) with e | e
    · exact e
    · exfalso
      have h1 := cmpI_ne e
      have h2 := cmpI_ne (fun e' => e e'.symm)
      simp only [cmpT] at h
      split at h
      · split at h <;> contradiction
      · unfold orI at h; rw [if_neg h1] at h; contradiction
  subst hfg
  by_cases hf : f < 0
  · simp [nodes, hf]
  · have hlm : l.length = m.length := by
      rcases Decidable.em (l.length = m.length) with e | e
      · exact e
      · exfalso
        have h1 : cmpI (l.length : Int) m.length ≠ 0 := cmpI_ne (by omega)
        simp [cmpT, hf, cmpI_self, orI, h1] at h
    have hc : cmpTs l m = 0 := by simpa [cmpT, hf, cmpI_self, hlm, orI] using h
    have key : ∀ (l m : List S30), (∀ x ∈ l, ∀ y, cmpT x y = 0 → (nodes x).length = (nodes y).length) → l.length = m.length → cmpTs l m = 0 → (nodess l).length = (nodess m).length := by
      intro l
      induction l with
      | nil => intro m _ hl _; cases m with
        | nil => rfl
        | cons => simp at hl
      | cons x l ihl =>
        intro m h hl hc
        cases m with
        | nil => simp at hl
        | cons y m =>
          rw [cmpTs] at hc
          split at hc
          · rename_i h0
            rw [nodess, nodess, List.length_append, List.length_append, h x (by simp) y h0, ihl m (fun x hx => h x (by simp [hx])) (by simpa using hl) hc]
          · rename_i h0; contradiction
    have := key l m (fun x hx y => ih x hx y) hlm hc
    simp [nodes, hf, this]
theorem gt_len {a b : S30} (h : gtT a b = true) : (nodes b).length ≤ (nodes a).length := by
  obtain ⟨f, l⟩ := a
  obtain ⟨g, m⟩ := b
  rw [gtT, Bool.and_eq_true] at h
  have h2 := h.2
  split at h2
  · omega
  · have := of_decide_eq_true h2
    omega
theorem gtTs_same : ∀ l m : List S30, cmpTs l m = 0 → gtTs l m = false
  | [], _, _ => by rw [gtTs]
  | _ :: _, [], _ => by rw [gtTs]
  | x :: l, y :: m, h => by
    rw [cmpTs] at h
    split at h
    · rename_i h0
      rw [gtTs, if_pos h0]
      exact gtTs_same l m h
    · rename_i h0; contradiction
theorem cmp_zero {f g : Int} {l m : List S30} (h : cmpT ⟨f, l⟩ ⟨g, m⟩ = 0) : f = g ∧ (¬ f < 0 → l.length = m.length ∧ cmpTs l m = 0) := by
  have hfg : f = g := by
    rcases Decidable.em (f = g) with e | e
    · exact e
    · exfalso
      have h1 := cmpI_ne e
      have h2 := cmpI_ne (fun e' => e e'.symm)
      simp only [cmpT] at h
      split at h
      · split at h <;> contradiction
      · unfold orI at h; rw [if_neg h1] at h; contradiction
  subst hfg
  refine ⟨rfl, fun hf => ?_⟩
  have hlm : l.length = m.length := by
    rcases Decidable.em (l.length = m.length) with e | e
    · exact e
    · exfalso
      have h1 : cmpI (l.length : Int) m.length ≠ 0 := cmpI_ne (by omega)
      simp [cmpT, hf, cmpI_self, orI, h1] at h
  exact ⟨hlm, by simpa [cmpT, hf, cmpI_self, hlm, orI] using h⟩
theorem gt_same {a b : S30} (h : cmpT a b = 0) : gtT a b = false := by
  have hl := cmp_len a b h
  obtain ⟨f, l⟩ := a
  obtain ⟨g, m⟩ := b
  obtain ⟨rfl, h2⟩ := cmp_zero h
  rw [gtT, if_pos hl]
  by_cases hf : f < 0
  · rw [if_pos (.inl hf), Bool.and_false]
  · obtain ⟨h3, h4⟩ := h2 hf
    rw [if_neg (by omega), if_pos rfl, if_pos h3, gtTs_same l m h4, Bool.and_false]
theorem KCompare_spec (a b : S30) (ha : fit a) (hb : fit b) : Ev (fun k => kbo_Compare.f k a.f0 a.f1 b.f0 b.f1) (kcmp a b) := by
  unfold kbo_Compare.f kcmp
  simp only [Same_of, Option.bind_some]
  by_cases h0 : cmpT a b = 0
  · simp only [h0, beq_self_eq_true, if_true]; exact Ev.now _
  · have : (cmpT a b == 0) = false := by simpa using h0
    simp only [this, Bool.false_eq_true, if_false, if_neg h0]
    refine Ev.bind (KGreater_spec a b ha hb) ?_
    by_cases h1 : gtT a b = true
    · simp only [h1, if_true]; exact Ev.now _
    · simp only [if_neg h1]
      refine Ev.bind (KGreater_spec b a hb ha) ?_
      by_cases h2 : gtT b a = true
      · simp only [h2, if_true]; exact Ev.now _
      · simp only [if_neg h2]; exact Ev.now _
theorem fit_of_ok : ∀ t : S30, ok t → (nodes t).length ≤ 1000000 → fit t := by
  have key : ∀ t : S30, ok t → SmallN t := by
    refine S30.ind ?_
    intro f l ih h
    obtain ⟨h1, h2, h3, h4⟩ := h
    have hl : ∀ y ∈ nodess l, -1000000 ≤ y.f0 ∧ y.f0 ≤ 1000000 := by
      have := oks_mem h4
      clear h1 h2 h3 h4
      induction l with
      | nil => intro y hy; cases hy
      | cons x l ihl =>
        intro y hy
        rw [nodess, List.mem_append] at hy
        rcases hy with hy | hy
        · exact ih x (by simp) (this x (by simp)) y hy
        · exact ihl (fun x hx => ih x (by simp [hx])) (fun x hx => this x (by simp [hx])) y hy
    intro y hy
    rw [nodes] at hy
    rcases List.mem_cons.1 hy with rfl | hy
    · exact ⟨by show -1000000 ≤ f; omega, by show f ≤ 1000000; omega⟩
    · split at hy
      · cases hy
      · exact hl y hy
  intro t h hn
  exact ⟨hn, key t h⟩
theorem alive10 : Ev (fun k => soriteslaw10_alive.f k) true := by
  have f1 : fit ⟨4, [⟨-1, []⟩, ⟨1, []⟩]⟩ := fitB_iff _ |>.1 (by decide)
  have f2 : fit ⟨3, [⟨-1, []⟩]⟩ := fitB_iff _ |>.1 (by decide)
  have f3 : fit ⟨-1, []⟩ := fitB_iff _ |>.1 (by decide)
  have f4 : fit ⟨1, []⟩ := fitB_iff _ |>.1 (by decide)
  unfold soriteslaw10_alive.f
  refine Ev.bind (KGreater_spec ⟨4, [⟨-1, []⟩, ⟨1, []⟩]⟩ ⟨3, [⟨-1, []⟩]⟩ f1 f2) ?_
  rw [show gtT ⟨4, [⟨-1, []⟩, ⟨1, []⟩]⟩ ⟨3, [⟨-1, []⟩]⟩ = true by decide]
  simp only [if_true]
  refine Ev.bind (KCompare_spec ⟨-1, []⟩ ⟨1, []⟩ f3 f4) ?_
  rw [show kcmp ⟨-1, []⟩ ⟨1, []⟩ = 2 by decide]
  exact Ev.now _
end Go.Proofs.Ytpfddihcikiofaa.P
end

section
namespace Go.Proofs.Ytpfddihcikiofaa.P
open Go.RowKit Go.Proofs.YtpfddihcikiofaaW.PrintWords Go.Proofs.YtpfddihcikiofaaW.PrintLast Go.Proofs.YtpfddihcikiofaaW.PrintMore
set_option linter.unusedVariables false
set_option linter.unusedSimpArgs false
def ground (t : S30) : Prop := ∀ x ∈ nodes t, 0 ≤ x.f0
theorem gtTs_asymm : ∀ l m : List S30, (∀ x ∈ l, ∀ y, gtT x y = true → gtT y x = false) → gtTs l m = true → gtTs m l = false
  | [], m, _, h => by rw [gtTs] at h; cases h
  | _ :: _, [], _, h => by rw [gtTs] at h; cases h
  | x :: l, y :: m, hx, h => by
    rw [gtTs] at h ⊢
    have hanti := cmp_anti x y
    by_cases h0 : cmpT x y = 0
    · rw [if_pos h0] at h
      rw [if_pos (by omega)]
      exact gtTs_asymm l m (fun x hx' => hx x (by simp [hx'])) h
    · rw [if_neg h0] at h
      rw [if_neg (by omega)]
      exact hx x (by simp) y h
theorem gt_asymm : ∀ a b : S30, gtT a b = true → gtT b a = false := by
  refine S30.ind ?_
  intro f l ih b h
  obtain ⟨g, m⟩ := b
  rw [gtT, Bool.and_eq_true] at h
  rw [gtT]
  have h2 := h.2
  by_cases hn : (nodes ⟨f, l⟩).length = (nodes ⟨g, m⟩).length
  · rw [if_pos hn] at h2
    rw [if_pos hn.symm]
    by_cases hv : f < 0 ∨ g < 0
    · rw [if_pos hv] at h2; cases h2
    · rw [if_neg hv] at h2
      rw [if_neg (by omega)]
      by_cases hfg : f = g
      · subst hfg
        rw [if_pos rfl] at h2 ⊢
        by_cases hlm : l.length = m.length
        · rw [if_pos hlm] at h2
          rw [if_pos hlm.symm, gtTs_asymm l m ih h2, Bool.and_false]
        · rw [if_neg hlm, decide_eq_true_eq] at h2
          rw [if_neg (fun e => hlm e.symm), decide_eq_false (by omega), Bool.and_false]
      · rw [if_neg hfg, decide_eq_true_eq] at h2
        rw [if_neg (fun e => hfg e.symm), decide_eq_false (by omega), Bool.and_false]
  · rw [if_neg hn, decide_eq_true_eq] at h2
    rw [if_neg (fun e => hn e.symm), decide_eq_false (by omega), Bool.and_false]
theorem gt_ne {a b : S30} (h : gtT a b = true) : cmpT a b ≠ 0 := fun h0 => by rw [gt_same h0] at h; cases h
end Go.Proofs.Ytpfddihcikiofaa.P
end

section
namespace Go.Proofs.Ytpfddihcikiofaa.P
open Go.RowKit Go.Proofs.YtpfddihcikiofaaW.PrintWords Go.Proofs.YtpfddihcikiofaaW.PrintLast Go.Proofs.YtpfddihcikiofaaW.PrintMore
attribute [local go_sem] max2_int min2_int max_two min_two max_three min_three max_four min_four
set_option linter.unusedVariables false
set_option linter.unusedSimpArgs false
def term_At.l0 : Nat → List Int → Int → Int → Int → List (S30) → Option (Int × (List (S30)) × Bool)
  | 0, _, _, _, _, _ => none
  | k + 1, x9, x10, x11, x171000, x171001 => if x11 < x10 then (if 0 ≤ x11 then (if x11 < (x9.length : Int) then ((term_parts.f x171000 x171001).bind fun t173 => (if (rd x9 x11) < 0 then (some (0, ([] : List (S30)), false)) else (if (rd x9 x11) ≥ (t173.length : Int) then (some (0, ([] : List (S30)), false)) else (if 0 ≤ (rd x9 x11) then (if (rd x9 x11) < (t173.length : Int) then (term_At.l0 k x9 x10 (wrap64 (x11 + 1)) ((rd_T30 t173 (rd x9 x11)).f0) ((rd_T30 t173 (rd x9 x11)).f1)) else (none)) else (none))))) else (none)) else (none)) else (some (x171000, x171001, true))
def term_At.f (k : Nat) (a0_0 : Int) (l0_1 : List (S30)) (l1 : List Int) : Option (Int × (List (S30)) × Bool) := term_At.l0 k l1 (l1.length : Int) 0 a0_0 l0_1
set_option maxHeartbeats 8000000 in
set_option maxRecDepth 100000 in
theorem term_At.calls (k : Nat) (a0_0 : Int) (P0_1_ : Nat → Prop) (A0_1 : Option Addr) (c0_1 : Nat) (l0_1 : List (S30)) (A1 : Option Addr) (c1 : Nat) (l1 : List Int) (r1 : Int) (r2 : List (S30)) (r3 : Bool) (w : World) (hs0_1 : Kd.V k30 30 w w.heap.size (fun k_ => P0_1_ k_) (.slice A0_1 l0_1.length c0_1) l0_1) (hr1 : Kd.C (Kd.int .i64) w A1 l1.length l1) (hc1 : l1.length ≤ c1) (h : term_At.f k a0_0 l0_1 l1 = some (r1, r2, r3)) :
    Calls Try.prog 27 #[.agg #[.int .i64 a0_0, .slice A0_1 l0_1.length c0_1], .slice A1 l1.length c1] w fun e w' => ∃ v1_ : Value, e = .returned (.tuple #[.agg #[.int .i64 r1, v1_], .bool r3]) ∧ Kd.V k30 30 w' w.heap.size (fun k_ => (P0_1_ k_ ∨ w.heap.size ≤ k_)) v1_ r2 ∧ Below w.heap.size w w' := by
  have hu30 := Try.underlying30
  have HO0_1 := Aside0.mk (show Kd.V k30 30 w w.heap.size (fun k_ => (P0_1_ k_ ∨ w.heap.size ≤ k_)) (.slice A0_1 l0_1.length c0_1) l0_1 from Kd.V_mono hs0_1 (fun k_ hk => .inl hk))
  have HR1 := Aside0.mk hr1
  have HC1 := Aside0.mk hc1
  clear hr1 hc1
  have HB := Aside0.mk (Below.refl w.heap.size w)
  have H : (term_At.l0 k l1 (l1.length : Int) 0 a0_0 l0_1) = some (r1, r2, r3) := h
  clear h
  have H' := Aside0.mk H
  clear H
  go_enter Try.func27, Try.ntmps27
  go_wp2_with (first | ((with_reducible refine gate_dst (N := 2) rfl ?_); (try (refine gate_guard (by rfl) ?_; dsimp only)); refine box_event ?hg (N := 2) ?hd (cs := #[.int .i64 a0_0, .slice A0_1 l0_1.length c0_1]) (t := 30) ?hr ?_; (case hd => rfl); (case hg => rfl); (case hr => first | (go_simp; done) | (go_simp; rfl)); intro gb170 hg w3 hbox hb; have n0_ := Aside0.mk (Kd.V_below (Kd.V_elderB (by (with_reducible repeat (first | apply Kd.V_alloc | apply Kd.V_drewN | apply Kd.V_drew)); exact HO0_1.out) gb170 (Nat.le_of_eq hg.symm)) hb); have n1_ := Aside0.mk (below_step (by repeat (first | (with_reducible first | exact HB.out | apply below_alloc | apply pw_below_drewN | apply below_drew1) | exact HB.out)) hb); have n2_ := Aside0.mk (hbox); have n3_ := Aside0.mk ((by rw [hg]; exact (below_size (by repeat (first | (with_reducible first | exact HB.out | apply below_alloc | apply pw_below_drewN | apply below_drew1) | exact HB.out))) : w.heap.size ≤ gb170)); have n4_ := Aside0.mk ((by rw [hg]; exact (below_size (by repeat (first | (with_reducible first | exact HB.out | apply below_alloc | apply pw_below_drewN | apply below_drew1) | exact HB.out))) : w.heap.size ≤ gb170)); clear HO0_1; clear HB; have HO0_1 := n0_; have HB := n1_; have BK170 := n2_; have GW170 := n3_; have GE170 := n4_; clear n0_ n1_ n2_ n3_ n4_; clear hb hbox hg) | ((with_reducible refine gate_dst (N := 4) rfl ?_); (try (refine gate_guard (by rfl) ?_; dsimp only)); refine box_event ?hg (N := 4) ?hd (cs := #[.int .i64 0, .slice none 0 0]) (t := 30) ?hr ?_; (case hd => rfl); (case hg => rfl); (case hr => first | (go_simp; done) | (go_simp; rfl)); intro gb171 hg w4 hbox hb; have n0_ := Aside0.mk (Kd.V_below (Kd.V_elderB (by (with_reducible repeat (first | apply Kd.V_alloc | apply Kd.V_drewN | apply Kd.V_drew)); exact HO0_1.out) gb171 (Nat.le_of_eq hg.symm)) hb); have n1_ := Aside0.mk (blk_below (g := gb170) (o := .cells #[.int .i64 a0_0, .slice A0_1 l0_1.length c0_1] 30 (0, 0)) (by (with_reducible repeat (first | refine blk_drewN ?_ _ | refine blk_drew ?_ | refine blk_alloc ?_ _)); exact BK170.out) hb); have n2_ := Aside0.mk (below_step (by repeat (first | (with_reducible first | exact HB.out | apply below_alloc | apply pw_below_drewN | apply below_drew1 | refine below_set ?_ GE170.out) | exact HB.out)) hb); have n3_ := Aside0.mk (hbox); have n4_ := Aside0.mk ((by rw [hg]; exact (below_size (by repeat (first | (with_reducible first | exact HB.out | apply below_alloc | apply pw_below_drewN | apply below_drew1 | refine below_set ?_ GE170.out) | exact HB.out))) : w.heap.size ≤ gb171)); have n5_ := Aside0.mk ((by rw [hg]; exact (below_size (by repeat (first | (with_reducible first | exact HB.out | apply below_alloc | apply pw_below_drewN | apply below_drew1 | refine below_set ?_ GE170.out) | exact HB.out))) : w.heap.size ≤ gb171)); have n6_ := Aside0.mk ((by rw [hg]; exact Nat.ne_of_lt (blk_lt (g := gb170) (o := .cells #[.int .i64 a0_0, .slice A0_1 l0_1.length c0_1] 30 (0, 0)) (by (with_reducible repeat (first | refine blk_drewN ?_ _ | refine blk_drew ?_ | refine blk_alloc ?_ _)); exact BK170.out)) : gb170 ≠ gb171)); have n7_ := Aside0.mk ((by rw [hg]; exact Nat.ne_of_gt (blk_lt (g := gb170) (o := .cells #[.int .i64 a0_0, .slice A0_1 l0_1.length c0_1] 30 (0, 0)) (by (with_reducible repeat (first | refine blk_drewN ?_ _ | refine blk_drew ?_ | refine blk_alloc ?_ _)); exact BK170.out)) : gb171 ≠ gb170)); clear HO0_1; clear BK170; clear HB; have HO0_1 := n0_; have BK170 := n1_; have HB := n2_; have BK171 := n3_; have GW171 := n4_; have GE171 := n5_; have NB170_171 := n6_; have NB171_170 := n7_; clear n0_ n1_ n2_ n3_ n4_ n5_ n6_ n7_; clear hb hbox hg))
  go_loopg [11] k (fun kq v11 w' => ∃ (x11_1 : Int) (x171000_1 : Int) (x171001_1 : List (S30)) (x172000_1 : Int) (u171001 : Value), v11 = .int .i64 x11_1 ∧ Aside0 (term_At.l0 kq l1 (l1.length : Int) x11_1 x171000_1 x171001_1 = some (r1, r2, r3)) ∧ Aside0 (kq ≤ k) ∧ Aside0 (Kd.V k30 30 w' w.heap.size (fun k_ => (P0_1_ k_ ∨ w.heap.size ≤ k_) ∧ k_ ≠ gb170 ∧ k_ ≠ gb171) u171001 x171001_1) ∧ Aside0 (w'.heap[gb170]? = some (.cells #[.int .i64 x171000_1, u171001] 30 (0, 0))) ∧ Aside0 (w'.heap[gb171]? = some (.cells #[.int .i64 x172000_1, (.slice none 0 0)] 30 (0, 0))) ∧ Aside0 (Below w.heap.size w w'))
  case atStart => exact ⟨(0), (a0_0), (l0_1), (0), (.slice A0_1 l0_1.length c0_1), (by first | rfl | (simp; done) | (simp [*]; done)), H', ⟨Nat.le_refl _⟩, ⟨by (with_reducible repeat (first | apply Kd.V_alloc | apply Kd.V_drewN | apply Kd.V_drew)); exact Kd.V_mono HO0_1.out (fun _ hk => ⟨hk.1.1, ⟨hk.1.2, hk.2⟩⟩)⟩, ⟨by (with_reducible repeat (first | refine blk_drewN ?_ _ | refine blk_drew ?_ | refine blk_alloc ?_ _)); exact BK170.out⟩, ⟨by (with_reducible repeat (first | refine blk_drewN ?_ _ | refine blk_drew ?_ | refine blk_alloc ?_ _)); exact BK171.out⟩, ⟨by repeat (first | (with_reducible first | exact HB.out | apply below_alloc | apply pw_below_drewN | apply below_drew1 | refine below_set ?_ GE170.out | refine below_set ?_ GE171.out) | exact HB.out)⟩⟩
  case round =>
    clear H'
    try clear c1
    try clear c2
    try clear p2
    obtain ⟨x11_1, x171000_1, x171001_1, x172000_1, u171001, rfl, HA, HK1, HO_171001, BK170, BK171, HB⟩ := hrel
    cases gk with
    | zero => exact absurd HA.out (by simp [term_At.l0])
    | succ k1 =>
      have H := HA.out
      clear HA
      simp only [term_At.l0] at H
      by_cases c5 : x11_1 < (l1.length : Int)
      · rw [if_pos c5] at H
        have c5b0 : decide (x11_1 < (l1.length : Int)) = true := decide_eq_true c5
        clear c5
        by_cases c6 : 0 ≤ x11_1
        · rw [if_pos c6] at H
          have c6b0 : decide (0 ≤ x11_1) = true := decide_eq_true c6
          clear c6
          by_cases c7 : x11_1 < (l1.length : Int)
          · rw [if_pos c7] at H
            have c7b0 : decide (x11_1 < (l1.length : Int)) = true := decide_eq_true c7
            clear c7
            replace H := Option.bind_eq_some_iff.mp H
            obtain ⟨t173, A80, H⟩ := H
            replace H : (if (rd l1 x11_1) < 0 then (some (0, ([] : List (S30)), false)) else (if (rd l1 x11_1) ≥ (t173.length : Int) then (some (0, ([] : List (S30)), false)) else (if 0 ≤ (rd l1 x11_1) then (if (rd l1 x11_1) < (t173.length : Int) then (term_At.l0 k1 l1 (l1.length : Int) (wrap64 (x11_1 + 1)) ((rd_T30 t173 (rd l1 x11_1)).f0) ((rd_T30 t173 (rd l1 x11_1)).f1)) else (none)) else (none)))) = some (r1, r2, r3) := H
            have A8 := Aside0.mk A80
            clear A80
            by_cases c9 : (rd l1 x11_1) < 0
            · rw [if_pos c9] at H
              have c9b0 : decide ((rd l1 x11_1) < 0) = true := decide_eq_true c9
              clear c9
              simp only [Option.some.injEq, Prod.mk.injEq] at H
              obtain ⟨rfl, rfl, rfl⟩ := H
              have p172 : 0 ≤ (x11_1 : Int) := of_decide_eq_true (by first | (with_reducible assumption) | assumption)
              have q172 : x11_1 < (l1.length : Int) := of_decide_eq_true (by first | (with_reducible assumption) | assumption)
              obtain ⟨ad172, e172, hx172_0⟩ := Kd.at_int HR1.out x11_1 p172 q172
              cases e172
              replace hx172_0 := (HB.out.cell (World.block_lt_of_cell? w _ hx172_0)).trans hx172_0
              replace p172 := eq_true p172
              replace q172 := eq_true q172
              have hnb10 := NB170_171.out
              have hnc10 := NB171_170.out
              have hcz11_0 : wr.cell? ⟨gb170, 0, none⟩ = some (.int .i64 x171000_1) := (blk_cell BK170.out 0).trans rfl
              have hcz11_1 : wr.cell? ⟨gb170, 1, none⟩ = some (u171001) := (blk_cell BK170.out 1).trans rfl
              have hfz11_0 := blk_frozen BK170.out 0
              have hfz11_1 := blk_frozen BK170.out 1
              obtain ⟨Ao12, co12, eo12⟩ := Kd.V_slice HO_171001.out
              subst eo12
              go_wp2_with (first | ((with_reducible refine gate_callee (f := 74) rfl ?_); refine goesL_ (some 16) rfl rfl Try.func74 (by kernel_rfl) rfl #[.agg #[.int .i64 x171000_1, .slice Ao12 x171001_1.length co12]] rfl (by (try simp only [List.map_toArray, List.map_cons, List.map_nil]); first | done | rfl | (simp only [List.length_drop, List.length_take]; rfl)) ?_; (with_reducible refine (term_parts.calls x171000_1 (fun k_ => ((P0_1_ k_ ∨ w.heap.size ≤ k_) ∧ (k_ ≠ gb170 ∧ k_ ≠ gb171))) _ _ x171001_1 t173 _ ?side1 A8.out).mono ?_); (case side1 => exact HO_171001.out); rintro e w13 ⟨v174, rfl, ho0, hb⟩; refine ⟨_, rfl, ?_⟩; have n0_ := Aside0.mk (Kd.V_below (by (with_reducible repeat (first | apply Kd.V_alloc | apply Kd.V_drewN | apply Kd.V_drew)); exact HO_171001.out) hb); have n1_ := Aside0.mk (Kd.V_lower (Kd.V_mono (ok' := fun k_ => (P0_1_ k_ ∨ w.heap.size ≤ k_) ∧ k_ ≠ gb170 ∧ k_ ≠ gb171) ho0 (fun k_ hk_ => ⟨Or.elim hk_ (fun hs_ => hs_.1) (fun hn_ => (.inr (Nat.le_trans (below_size (by repeat (first | (with_reducible first | exact HB.out | apply below_alloc | apply pw_below_drewN | apply below_drew1 | refine below_set ?_ GE170.out | refine below_set ?_ GE171.out) | exact HB.out))) hn_))), Or.elim hk_ (fun hs_ => hs_.2.1) (fun hn_ => (Kd.freshB (g := gb170) (o := .cells #[.int .i64 x171000_1, .slice Ao12 x171001_1.length co12] 30 (0, 0)) (by (with_reducible repeat (first | refine blk_drewN ?_ _ | refine blk_drew ?_ | refine blk_alloc ?_ _)); exact BK170.out) k_ hn_)), Or.elim hk_ (fun hs_ => hs_.2.2) (fun hn_ => (Kd.freshB (g := gb171) (o := .cells #[.int .i64 x172000_1, .slice none 0 0] 30 (0, 0)) (by (with_reducible repeat (first | refine blk_drewN ?_ _ | refine blk_drew ?_ | refine blk_alloc ?_ _)); exact BK171.out) k_ hn_))⟩)) (below_size (by repeat (first | (with_reducible first | exact HB.out | apply below_alloc | apply pw_below_drewN | apply below_drew1 | refine below_set ?_ GE170.out | refine below_set ?_ GE171.out) | exact HB.out)))); have n2_ := Aside0.mk (blk_below (g := gb170) (o := .cells #[.int .i64 x171000_1, .slice Ao12 x171001_1.length co12] 30 (0, 0)) (by (with_reducible repeat (first | refine blk_drewN ?_ _ | refine blk_drew ?_ | refine blk_alloc ?_ _)); exact BK170.out) hb); have n3_ := Aside0.mk (blk_below (g := gb171) (o := .cells #[.int .i64 x172000_1, .slice none 0 0] 30 (0, 0)) (by (with_reducible repeat (first | refine blk_drewN ?_ _ | refine blk_drew ?_ | refine blk_alloc ?_ _)); exact BK171.out) hb); have n4_ := Aside0.mk (below_step (by repeat (first | (with_reducible first | exact HB.out | apply below_alloc | apply pw_below_drewN | apply below_drew1 | refine below_set ?_ GE170.out | refine below_set ?_ GE171.out) | exact HB.out)) hb); clear HO_171001; clear BK170; clear BK171; clear HB; have HO_171001 := n0_; have HO175 := n1_; have BK170 := n2_; have BK171 := n3_; have HB := n4_; clear n0_ n1_ n2_ n3_ n4_; (try clear hb); (try clear hb2); (try clear hk); (try clear hi); (try clear ho0); have hcz14_0 : w13.cell? ⟨gb171, 0, none⟩ = some (.int .i64 x172000_1) := (blk_cell BK171.out 0).trans rfl; have hcz14_1 : w13.cell? ⟨gb171, 1, none⟩ = some (.slice none 0 0) := (blk_cell BK171.out 1).trans rfl; have hfz14_0 := blk_frozen BK171.out 0; have hfz14_1 := blk_frozen BK171.out 1))
              refine bodyPost_ret (results_ct rfl _ _ gb171 30 #[.int .i64 0, .slice none 0 0] (0, 0) _ rfl (by (with_reducible repeat (first | refine blk_drewN ?_ _ | refine blk_drew ?_ | refine blk_alloc ?_ _)); refine blk_put (cs := #[.int .i64 0, .slice none 0 0]) ?_ 1 _ rfl; (with_reducible repeat (first | refine blk_drewN ?_ _ | refine blk_drew ?_ | refine blk_alloc ?_ _)); refine blk_put (cs := #[.int .i64 x172000_1, .slice none 0 0]) ?_ 0 _ rfl; (with_reducible repeat (first | refine blk_drewN ?_ _ | refine blk_drew ?_ | refine blk_alloc ?_ _)); exact BK171.out) Try.underlying30 rfl (by kernel_rfl)) rfl ?_
              exact ⟨_, by first | rfl | (simp [errW_none, errW_some] <;> rfl) | (simp [*, errW_none, errW_some] <;> rfl), by first | exact Kd.R_nil _ _ _ _ _ | exact Kd.N_nil _ _ _ _ _ | exact Kd.V_nil _ _ _ _ _ | exact Kd.Q_nil _ _ _ _ _ | exact Kd.S_nil _ _ _ _ _, by repeat (first | (with_reducible first | exact HB.out | apply below_alloc | apply pw_below_drewN | apply below_drew1 | refine below_set ?_ GE170.out | refine below_set ?_ GE171.out) | exact HB.out)⟩
            · rw [if_neg c9] at H
              have c9b0 : decide ((rd l1 x11_1) < 0) = false := decide_eq_false c9
              clear c9
              by_cases c15 : (rd l1 x11_1) ≥ (t173.length : Int)
              · rw [if_pos c15] at H
                have c15b0 : decide ((t173.length : Int) ≤ (rd l1 x11_1)) = true := decide_eq_true c15
                clear c15
                simp only [Option.some.injEq, Prod.mk.injEq] at H
                obtain ⟨rfl, rfl, rfl⟩ := H
                have p172 : 0 ≤ (x11_1 : Int) := of_decide_eq_true (by first | (with_reducible assumption) | assumption)
                have q172 : x11_1 < (l1.length : Int) := of_decide_eq_true (by first | (with_reducible assumption) | assumption)
                obtain ⟨ad172, e172, hx172_0⟩ := Kd.at_int HR1.out x11_1 p172 q172
                cases e172
                replace hx172_0 := (HB.out.cell (World.block_lt_of_cell? w _ hx172_0)).trans hx172_0
                replace p172 := eq_true p172
                replace q172 := eq_true q172
                have hnb16 := NB170_171.out
                have hnc16 := NB171_170.out
                have hcz17_0 : wr.cell? ⟨gb170, 0, none⟩ = some (.int .i64 x171000_1) := (blk_cell BK170.out 0).trans rfl
                have hcz17_1 : wr.cell? ⟨gb170, 1, none⟩ = some (u171001) := (blk_cell BK170.out 1).trans rfl
                have hfz17_0 := blk_frozen BK170.out 0
                have hfz17_1 := blk_frozen BK170.out 1
                obtain ⟨Ao18, co18, eo18⟩ := Kd.V_slice HO_171001.out
                subst eo18
                go_wp2_with (first | ((with_reducible refine gate_callee (f := 74) rfl ?_); refine goesL_ (some 16) rfl rfl Try.func74 (by kernel_rfl) rfl #[.agg #[.int .i64 x171000_1, .slice Ao18 x171001_1.length co18]] rfl (by (try simp only [List.map_toArray, List.map_cons, List.map_nil]); first | done | rfl | (simp only [List.length_drop, List.length_take]; rfl)) ?_; (with_reducible refine (term_parts.calls x171000_1 (fun k_ => ((P0_1_ k_ ∨ w.heap.size ≤ k_) ∧ (k_ ≠ gb170 ∧ k_ ≠ gb171))) _ _ x171001_1 t173 _ ?side1 A8.out).mono ?_); (case side1 => exact HO_171001.out); rintro e w19 ⟨v174, rfl, ho0, hb⟩; refine ⟨_, rfl, ?_⟩; have n0_ := Aside0.mk (Kd.V_below (by (with_reducible repeat (first | apply Kd.V_alloc | apply Kd.V_drewN | apply Kd.V_drew)); exact HO_171001.out) hb); have n1_ := Aside0.mk (Kd.V_lower (Kd.V_mono (ok' := fun k_ => (P0_1_ k_ ∨ w.heap.size ≤ k_) ∧ k_ ≠ gb170 ∧ k_ ≠ gb171) ho0 (fun k_ hk_ => ⟨Or.elim hk_ (fun hs_ => hs_.1) (fun hn_ => (.inr (Nat.le_trans (below_size (by repeat (first | (with_reducible first | exact HB.out | apply below_alloc | apply pw_below_drewN | apply below_drew1 | refine below_set ?_ GE170.out | refine below_set ?_ GE171.out) | exact HB.out))) hn_))), Or.elim hk_ (fun hs_ => hs_.2.1) (fun hn_ => (Kd.freshB (g := gb170) (o := .cells #[.int .i64 x171000_1, .slice Ao18 x171001_1.length co18] 30 (0, 0)) (by (with_reducible repeat (first | refine blk_drewN ?_ _ | refine blk_drew ?_ | refine blk_alloc ?_ _)); exact BK170.out) k_ hn_)), Or.elim hk_ (fun hs_ => hs_.2.2) (fun hn_ => (Kd.freshB (g := gb171) (o := .cells #[.int .i64 x172000_1, .slice none 0 0] 30 (0, 0)) (by (with_reducible repeat (first | refine blk_drewN ?_ _ | refine blk_drew ?_ | refine blk_alloc ?_ _)); exact BK171.out) k_ hn_))⟩)) (below_size (by repeat (first | (with_reducible first | exact HB.out | apply below_alloc | apply pw_below_drewN | apply below_drew1 | refine below_set ?_ GE170.out | refine below_set ?_ GE171.out) | exact HB.out)))); have n2_ := Aside0.mk (blk_below (g := gb170) (o := .cells #[.int .i64 x171000_1, .slice Ao18 x171001_1.length co18] 30 (0, 0)) (by (with_reducible repeat (first | refine blk_drewN ?_ _ | refine blk_drew ?_ | refine blk_alloc ?_ _)); exact BK170.out) hb); have n3_ := Aside0.mk (blk_below (g := gb171) (o := .cells #[.int .i64 x172000_1, .slice none 0 0] 30 (0, 0)) (by (with_reducible repeat (first | refine blk_drewN ?_ _ | refine blk_drew ?_ | refine blk_alloc ?_ _)); exact BK171.out) hb); have n4_ := Aside0.mk (below_step (by repeat (first | (with_reducible first | exact HB.out | apply below_alloc | apply pw_below_drewN | apply below_drew1 | refine below_set ?_ GE170.out | refine below_set ?_ GE171.out) | exact HB.out)) hb); clear HO_171001; clear BK170; clear BK171; clear HB; have HO_171001 := n0_; have HO175 := n1_; have BK170 := n2_; have BK171 := n3_; have HB := n4_; clear n0_ n1_ n2_ n3_ n4_; (try clear hb); (try clear hb2); (try clear hk); (try clear hi); (try clear ho0); obtain ⟨Ao20, co20, eo20⟩ := Kd.V_slice HO175.out; subst eo20; have hcz21_0 : w19.cell? ⟨gb171, 0, none⟩ = some (.int .i64 x172000_1) := (blk_cell BK171.out 0).trans rfl; have hcz21_1 : w19.cell? ⟨gb171, 1, none⟩ = some (.slice none 0 0) := (blk_cell BK171.out 1).trans rfl; have hfz21_0 := blk_frozen BK171.out 0; have hfz21_1 := blk_frozen BK171.out 1))
                refine bodyPost_ret (results_ct rfl _ _ gb171 30 #[.int .i64 0, .slice none 0 0] (0, 0) _ rfl (by (with_reducible repeat (first | refine blk_drewN ?_ _ | refine blk_drew ?_ | refine blk_alloc ?_ _)); refine blk_put (cs := #[.int .i64 0, .slice none 0 0]) ?_ 1 _ rfl; (with_reducible repeat (first | refine blk_drewN ?_ _ | refine blk_drew ?_ | refine blk_alloc ?_ _)); refine blk_put (cs := #[.int .i64 x172000_1, .slice none 0 0]) ?_ 0 _ rfl; (with_reducible repeat (first | refine blk_drewN ?_ _ | refine blk_drew ?_ | refine blk_alloc ?_ _)); exact BK171.out) Try.underlying30 rfl (by kernel_rfl)) rfl ?_
                exact ⟨_, by first | rfl | (simp [errW_none, errW_some] <;> rfl) | (simp [*, errW_none, errW_some] <;> rfl), by first | exact Kd.R_nil _ _ _ _ _ | exact Kd.N_nil _ _ _ _ _ | exact Kd.V_nil _ _ _ _ _ | exact Kd.Q_nil _ _ _ _ _ | exact Kd.S_nil _ _ _ _ _, by repeat (first | (with_reducible first | exact HB.out | apply below_alloc | apply pw_below_drewN | apply below_drew1 | refine below_set ?_ GE170.out | refine below_set ?_ GE171.out) | exact HB.out)⟩
              · rw [if_neg c15] at H
                have c15b0 : decide ((t173.length : Int) ≤ (rd l1 x11_1)) = false := decide_eq_false c15
                clear c15
                by_cases c22 : 0 ≤ (rd l1 x11_1)
                · rw [if_pos c22] at H
                  have c22b0 : decide (0 ≤ (rd l1 x11_1)) = true := decide_eq_true c22
                  clear c22
                  by_cases c23 : (rd l1 x11_1) < (t173.length : Int)
                  · rw [if_pos c23] at H
                    have c23b0 : decide ((rd l1 x11_1) < (t173.length : Int)) = true := decide_eq_true c23
                    clear c23
                    have H' := Aside0.mk H
                    clear H
                    have p172 : 0 ≤ (x11_1 : Int) := of_decide_eq_true (by first | (with_reducible assumption) | assumption)
                    have q172 : x11_1 < (l1.length : Int) := of_decide_eq_true (by first | (with_reducible assumption) | assumption)
                    obtain ⟨ad172, e172, hx172_0⟩ := Kd.at_int HR1.out x11_1 p172 q172
                    cases e172
                    replace hx172_0 := (HB.out.cell (World.block_lt_of_cell? w _ hx172_0)).trans hx172_0
                    replace p172 := eq_true p172
                    replace q172 := eq_true q172
                    have hnb24 := NB170_171.out
                    have hnc24 := NB171_170.out
                    have hcz25_0 : wr.cell? ⟨gb170, 0, none⟩ = some (.int .i64 x171000_1) := (blk_cell BK170.out 0).trans rfl
                    have hcz25_1 : wr.cell? ⟨gb170, 1, none⟩ = some (u171001) := (blk_cell BK170.out 1).trans rfl
                    have hfz25_0 := blk_frozen BK170.out 0
                    have hfz25_1 := blk_frozen BK170.out 1
                    obtain ⟨Ao26, co26, eo26⟩ := Kd.V_slice HO_171001.out
                    subst eo26
                    go_wp2_with (first | ((with_reducible refine gate_callee (f := 74) rfl ?_); refine goesL_ (some 16) rfl rfl Try.func74 (by kernel_rfl) rfl #[.agg #[.int .i64 x171000_1, .slice Ao26 x171001_1.length co26]] rfl (by (try simp only [List.map_toArray, List.map_cons, List.map_nil]); first | done | rfl | (simp only [List.length_drop, List.length_take]; rfl)) ?_; (with_reducible refine (term_parts.calls x171000_1 (fun k_ => ((P0_1_ k_ ∨ w.heap.size ≤ k_) ∧ (k_ ≠ gb170 ∧ k_ ≠ gb171))) _ _ x171001_1 t173 _ ?side1 A8.out).mono ?_); (case side1 => exact HO_171001.out); rintro e w27 ⟨v174, rfl, ho0, hb⟩; refine ⟨_, rfl, ?_⟩; have n0_ := Aside0.mk (Kd.V_below (by (with_reducible repeat (first | apply Kd.V_alloc | apply Kd.V_drewN | apply Kd.V_drew)); exact HO_171001.out) hb); have n1_ := Aside0.mk (Kd.V_lower (Kd.V_mono (ok' := fun k_ => (P0_1_ k_ ∨ w.heap.size ≤ k_) ∧ k_ ≠ gb170 ∧ k_ ≠ gb171) ho0 (fun k_ hk_ => ⟨Or.elim hk_ (fun hs_ => hs_.1) (fun hn_ => (.inr (Nat.le_trans (below_size (by repeat (first | (with_reducible first | exact HB.out | apply below_alloc | apply pw_below_drewN | apply below_drew1 | refine below_set ?_ GE170.out | refine below_set ?_ GE171.out) | exact HB.out))) hn_))), Or.elim hk_ (fun hs_ => hs_.2.1) (fun hn_ => (Kd.freshB (g := gb170) (o := .cells #[.int .i64 x171000_1, .slice Ao26 x171001_1.length co26] 30 (0, 0)) (by (with_reducible repeat (first | refine blk_drewN ?_ _ | refine blk_drew ?_ | refine blk_alloc ?_ _)); exact BK170.out) k_ hn_)), Or.elim hk_ (fun hs_ => hs_.2.2) (fun hn_ => (Kd.freshB (g := gb171) (o := .cells #[.int .i64 x172000_1, .slice none 0 0] 30 (0, 0)) (by (with_reducible repeat (first | refine blk_drewN ?_ _ | refine blk_drew ?_ | refine blk_alloc ?_ _)); exact BK171.out) k_ hn_))⟩)) (below_size (by repeat (first | (with_reducible first | exact HB.out | apply below_alloc | apply pw_below_drewN | apply below_drew1 | refine below_set ?_ GE170.out | refine below_set ?_ GE171.out) | exact HB.out)))); have n2_ := Aside0.mk (blk_below (g := gb170) (o := .cells #[.int .i64 x171000_1, .slice Ao26 x171001_1.length co26] 30 (0, 0)) (by (with_reducible repeat (first | refine blk_drewN ?_ _ | refine blk_drew ?_ | refine blk_alloc ?_ _)); exact BK170.out) hb); have n3_ := Aside0.mk (blk_below (g := gb171) (o := .cells #[.int .i64 x172000_1, .slice none 0 0] 30 (0, 0)) (by (with_reducible repeat (first | refine blk_drewN ?_ _ | refine blk_drew ?_ | refine blk_alloc ?_ _)); exact BK171.out) hb); have n4_ := Aside0.mk (below_step (by repeat (first | (with_reducible first | exact HB.out | apply below_alloc | apply pw_below_drewN | apply below_drew1 | refine below_set ?_ GE170.out | refine below_set ?_ GE171.out) | exact HB.out)) hb); clear HO_171001; clear BK170; clear BK171; clear HB; have HO_171001 := n0_; have HO175 := n1_; have BK170 := n2_; have BK171 := n3_; have HB := n4_; clear n0_ n1_ n2_ n3_ n4_; (try clear hb); (try clear hb2); (try clear hk); (try clear hi); (try clear ho0); obtain ⟨Ao28, co28, eo28⟩ := Kd.V_slice HO175.out; subst eo28; have p176 : 0 ≤ ((rd l1 x11_1) : Int) := of_decide_eq_true (by first | (with_reducible assumption) | assumption); have q176 : (rd l1 x11_1) < (t173.length : Int) := of_decide_eq_true (by first | (with_reducible assumption) | assumption); obtain ⟨ad176, A176_1, c176_1, e176, hx176_0, hx176_1, hl176_1, hi176_1⟩ := at_T30 (Kd.V_reads' HO175.out).2.2 (rd l1 x11_1) p176 q176; cases e176; obtain ⟨ce176, hce176, hMe176, hcc176⟩ := Kd.V_get HO175.out z30 (rd l1 x11_1) p176 (by first | exact q176 | exact of_decide_eq_true (by first | (with_reducible assumption) | assumption) | (have e_ := (Kd.V_reads' HO175.out).1; omega)); obtain ⟨ua176_1, uc176_1, rfl, ul176_1, ge176_1⟩ := k30_openF hMe176; have hv176_1 := hcc176 1 _ rfl; rw [add_field _ _ 1 (by omega)] at hv176_1; replace hv176_1 := Option.some.inj (hv176_1.symm.trans hx176_1); injection hv176_1 with hva_ hvn_ hvc_; rw [hva_] at ge176_1; rw [hvc_] at ul176_1; have HL176_1 := Aside0.mk (show Kd.V k30 30 _ w.heap.size _ _ ((rd_T30 t173 (rd l1 x11_1)).f1) from Kd.V_mk ul176_1 ge176_1); clear hva_ hvn_ hvc_ ge176_1 ul176_1; clear hcc176 hce176; have HR176_1 := Aside0.mk hi176_1; have HC176_1 := Aside0.mk hl176_1; clear hi176_1 hl176_1; replace p176 := eq_true p176; replace q176 := eq_true q176; have hcz29_0 : w27.cell? ⟨gb170, 0, none⟩ = some (.int .i64 x171000_1) := (blk_cell BK170.out 0).trans rfl; have hcz29_1 : w27.cell? ⟨gb170, 1, none⟩ = some (.slice Ao26 x171001_1.length co26) := (blk_cell BK170.out 1).trans rfl; have hfz29_0 := blk_frozen BK170.out 0; have hfz29_1 := blk_frozen BK170.out 1))
                    go_roundg k1
                    case measure => have := HK1.out; omega
                    case rel => exact ⟨(wrap64 (x11_1 + 1)), ((rd_T30 t173 (rd l1 x11_1)).f0), ((rd_T30 t173 (rd l1 x11_1)).f1), (x172000_1), (.slice A176_1 ((rd_T30 t173 (rd l1 x11_1)).f1).length c176_1), (by first | rfl | (simp; done) | (simp [*]; done)), H', ⟨by have := HK1.out; omega⟩, ⟨by (with_reducible repeat (first | apply Kd.V_alloc | apply Kd.V_drewN | apply Kd.V_drew)); exact Kd.V_mono (Kd.V_far (p := ⟨gb170, 1, none⟩) (Kd.V_far (p := ⟨gb170, 0, none⟩) (Kd.V_mono HL176_1.out (fun k_ hk => (⟨hk, hk.2.1⟩ : _ ∧ k_ ≠ gb170))) (fun _ hk => hk.2) (.int .i64 ((rd_T30 t173 (rd l1 x11_1)).f0))) (fun _ hk => hk.2) (.slice A176_1 ((rd_T30 t173 (rd l1 x11_1)).f1).length c176_1)) (fun _ hk => ⟨hk.1.1, ⟨hk.1.2.1, hk.1.2.2⟩⟩)⟩, ⟨by (with_reducible repeat (first | refine blk_drewN ?_ _ | refine blk_drew ?_ | refine blk_alloc ?_ _)); refine blk_put (cs := #[.int .i64 ((rd_T30 t173 (rd l1 x11_1)).f0), .slice Ao26 x171001_1.length co26]) ?_ 1 _ rfl; (with_reducible repeat (first | refine blk_drewN ?_ _ | refine blk_drew ?_ | refine blk_alloc ?_ _)); refine blk_put (cs := #[.int .i64 x171000_1, .slice Ao26 x171001_1.length co26]) ?_ 0 _ rfl; (with_reducible repeat (first | refine blk_drewN ?_ _ | refine blk_drew ?_ | refine blk_alloc ?_ _)); exact BK170.out⟩, ⟨by (with_reducible repeat (first | refine blk_drewN ?_ _ | refine blk_drew ?_ | refine blk_alloc ?_ _)); refine blk_far ?_ NB171_170.out _; (with_reducible repeat (first | refine blk_drewN ?_ _ | refine blk_drew ?_ | refine blk_alloc ?_ _)); refine blk_far ?_ NB171_170.out _; (with_reducible repeat (first | refine blk_drewN ?_ _ | refine blk_drew ?_ | refine blk_alloc ?_ _)); exact BK171.out⟩, ⟨by repeat (first | (with_reducible first | exact HB.out | apply below_alloc | apply pw_below_drewN | apply below_drew1 | refine below_set ?_ GE170.out | refine below_set ?_ GE171.out) | exact HB.out)⟩⟩
                  · rw [if_neg c23] at H
                    exact absurd H (by simp)
                · rw [if_neg c22] at H
                  exact absurd H (by simp)
          · rw [if_neg c7] at H
            exact absurd H (by simp)
        · rw [if_neg c6] at H
          exact absurd H (by simp)
      · rw [if_neg c5] at H
        have c5b0 : decide (x11_1 < (l1.length : Int)) = false := decide_eq_false c5
        clear c5
        simp only [Option.some.injEq, Prod.mk.injEq] at H
        obtain ⟨rfl, rfl, rfl⟩ := H
        have hnb30 := NB170_171.out
        have hnc30 := NB171_170.out
        have hcz31_0 : wr.cell? ⟨gb170, 0, none⟩ = some (.int .i64 x171000_1) := (blk_cell BK170.out 0).trans rfl
        have hcz31_1 : wr.cell? ⟨gb170, 1, none⟩ = some (u171001) := (blk_cell BK170.out 1).trans rfl
        have hfz31_0 := blk_frozen BK170.out 0
        have hfz31_1 := blk_frozen BK170.out 1
        have hcz32_0 : wr.cell? ⟨gb171, 0, none⟩ = some (.int .i64 x172000_1) := (blk_cell BK171.out 0).trans rfl
        have hcz32_1 : wr.cell? ⟨gb171, 1, none⟩ = some (.slice none 0 0) := (blk_cell BK171.out 1).trans rfl
        have hfz32_0 := blk_frozen BK171.out 0
        have hfz32_1 := blk_frozen BK171.out 1
        obtain ⟨Ao33, co33, eo33⟩ := Kd.V_slice HO_171001.out
        subst eo33
        go_wp2
        refine bodyPost_ret (results_ct rfl _ _ gb171 30 #[.int .i64 x171000_1, .slice Ao33 x171001_1.length co33] (0, 0) _ rfl (by (with_reducible repeat (first | refine blk_drewN ?_ _ | refine blk_drew ?_ | refine blk_alloc ?_ _)); refine blk_put (cs := #[.int .i64 x171000_1, .slice none 0 0]) ?_ 1 _ rfl; (with_reducible repeat (first | refine blk_drewN ?_ _ | refine blk_drew ?_ | refine blk_alloc ?_ _)); refine blk_put (cs := #[.int .i64 x172000_1, .slice none 0 0]) ?_ 0 _ rfl; (with_reducible repeat (first | refine blk_drewN ?_ _ | refine blk_drew ?_ | refine blk_alloc ?_ _)); exact BK171.out) Try.underlying30 rfl (by kernel_rfl)) rfl ?_
        exact ⟨_, by first | rfl | (simp [errW_none, errW_some] <;> rfl) | (simp [*, errW_none, errW_some] <;> rfl), by (with_reducible repeat (first | apply Kd.V_alloc | apply Kd.V_drewN | apply Kd.V_drew)); exact Kd.V_mono (Kd.V_far (p := ⟨gb171, 1, none⟩) (Kd.V_far (p := ⟨gb171, 0, none⟩) (Kd.V_mono HO_171001.out (fun k_ hk => (⟨hk, hk.2.2⟩ : _ ∧ k_ ≠ gb171))) (fun _ hk => hk.2) (.int .i64 x171000_1)) (fun _ hk => hk.2) (.slice Ao33 x171001_1.length co33)) (fun _ hk => hk.1.1), by repeat (first | (with_reducible first | exact HB.out | apply below_alloc | apply pw_below_drewN | apply below_drew1 | refine below_set ?_ GE170.out | refine below_set ?_ GE171.out) | exact HB.out)⟩
end Go.Proofs.Ytpfddihcikiofaa.P
end

section
namespace Go.Proofs.Ytpfddihcikiofaa.P
open Go.RowKit Go.Proofs.YtpfddihcikiofaaW.PrintWords Go.Proofs.YtpfddihcikiofaaW.PrintLast Go.Proofs.YtpfddihcikiofaaW.PrintMore
set_option linter.unusedVariables false
set_option linter.unusedSimpArgs false
theorem eqv_symm {a b : S30} (h : cmpT a b = 0) : cmpT b a = 0 := by have := cmp_anti a b; omega
theorem eqv_trans {a b c : S30} (h : cmpT a b = 0) (h2 : cmpT b c = 0) : cmpT a c = 0 := by
  have := cmp_trans a b c (by omega) (by omega)
  exact this.2.2 ⟨h, h2⟩
theorem eqv_nums : ∀ a b : S30, cmpT a b = 0 → (nodes a).map (·.f0) = (nodes b).map (·.f0) := by
  refine S30.ind ?_
  intro f l ih b h
  obtain ⟨g, m⟩ := b
  obtain ⟨rfl, h2⟩ := cmp_zero h
  by_cases hf : f < 0
  · simp [nodes, hf]
  · obtain ⟨h3, h4⟩ := h2 hf
    have key : ∀ (l m : List S30), (∀ x ∈ l, ∀ y, cmpT x y = 0 → (nodes x).map (·.f0) = (nodes y).map (·.f0)) → l.length = m.length → cmpTs l m = 0 → (nodess l).map (·.f0) = (nodess m).map (·.f0) := by
      intro l
      induction l with
      | nil => intro m _ hl _; cases m with
        | nil => rfl
        | cons => simp at hl
      | cons x l ihl =>
        intro m h hl hc
        cases m with
        | nil => simp at hl
        | cons y m =>
          rw [cmpTs] at hc
          split at hc
          · rename_i h0
            rw [nodess, nodess, List.map_append, List.map_append, h x (by simp) y h0, ihl m (fun x hx => h x (by simp [hx])) (by simpa using hl) hc]
          · rename_i h0; contradiction
    have := key l m (fun x hx y => ih x hx y) h3 h4
    simp [nodes, hf, this]
theorem countN_map (v : Int) (l : List S30) : countN v l = ((l.map (·.f0)).filter (· == v)).length := by
  unfold countN
  rw [List.filter_map, List.length_map]
  rfl
theorem eqv_count {a b : S30} (h : cmpT a b = 0) (v : Int) : countN v (nodes a) = countN v (nodes b) := by rw [countN_map, countN_map, eqv_nums a b h]
theorem cov_congr {a a' b b' : S30} (ha : cmpT a a' = 0) (hb : cmpT b b' = 0) : covT a b = covT a' b' := by
  rw [Bool.eq_iff_iff, covT_iff, covT_iff]
  have : ∀ x, netV a b x = netV a' b' x := fun x => by rw [netV_eq, netV_eq, eqv_count ha, eqv_count hb]
  simp only [this]
theorem gt_congr : ∀ a a' b b' : S30, cmpT a a' = 0 → cmpT b b' = 0 → gtT a b = gtT a' b' := by
  refine S30.ind ?_
  intro f l ih a' b b' ha hb
  have hcv := cov_congr ha hb
  have hla := cmp_len _ _ ha
  have hlb := cmp_len _ _ hb
  obtain ⟨f', l'⟩ := a'
  obtain ⟨g, m⟩ := b
  obtain ⟨g', m'⟩ := b'
  obtain ⟨rfl, ha2⟩ := cmp_zero ha
  obtain ⟨rfl, hb2⟩ := cmp_zero hb
  rw [gtT, gtT, hcv, hla, hlb]
  congr 1
  split
  · split
    · rfl
    · rename_i hv
      split
      · rename_i hfg
        obtain ⟨h1, h2⟩ := ha2 (by omega)
        obtain ⟨h3, h4⟩ := hb2 (by omega)
        rw [h1, h3]
        split
        · rename_i hlm
          have key : ∀ (l l' m m' : List S30), (∀ x ∈ l, ∀ a' b b' : S30, cmpT x a' = 0 → cmpT b b' = 0 → gtT x b = gtT a' b') → l.length = l'.length → m.length = m'.length → cmpTs l l' = 0 → cmpTs m m' = 0 → gtTs l m = gtTs l' m' := by
            intro l
            induction l with
            | nil => intro l' m m' _ h1 _ _ _; cases l' with
              | nil => rw [gtTs, gtTs]
              | cons => simp at h1
            | cons x l ihl =>
              intro l' m m' h h1 h3 h2 h4
              cases l' with
              | nil => simp at h1
              | cons x' l' =>
                cases m with
                | nil => cases m' with
                  | nil => rw [gtTs, gtTs]
                  | cons => simp at h3
                | cons y m =>
                  cases m' with
                  | nil => simp at h3
                  | cons y' m' =>
                    rw [cmpTs] at h2 h4
                    split at h2
                    · split at h4
                      · rename_i hx hy
                        rw [gtTs, gtTs, ihl l' m m' (fun x hx => h x (by simp [hx])) (by simpa using h1) (by simpa using h3) h2 h4, h x (by simp) x' y y' hx hy]
                        by_cases hxy : cmpT x y = 0
                        · rw [if_pos hxy, if_pos (eqv_trans (eqv_trans (eqv_symm hx) hxy) hy)]
                        · rw [if_neg hxy, if_neg (fun e => hxy (eqv_trans (eqv_trans hx e) (eqv_symm hy)))]
                      · contradiction
                    · contradiction
          exact key l l' m m' ih h1 h3 h2 h4
        · rfl
      · rfl
  · rfl
def atT : List Int → S30 → Option S30
  | [], t => some t
  | i :: q, t => if i < 0 ∨ ((partsT t).length : Int) ≤ i then none else atT q (rd_T30 (partsT t) i)
theorem parts_at {t : S30} {i : Int} (h : ¬ (i < 0 ∨ ((partsT t).length : Int) ≤ i)) : ¬ t.f0 < 0 ∧ ∃ hi : i.toNat < t.f1.length, rd_T30 (partsT t) i = t.f1[i.toNat] := by
  unfold partsT at *
  by_cases hf : t.f0 < 0
  · simp [hf] at h; omega
  · simp only [hf, if_false] at *
    refine ⟨fun h => h, by omega, ?_⟩
    rw [← rdC_at t.f1 i.toNat (by omega)]
    congr 1
    omega
theorem countN_nodes {f : Int} {l : List S30} (hf : ¬ f < 0) (v : Int) (hv : v < 0) : countN v (nodes ⟨f, l⟩) = countN v (nodess l) := by
  have hn : nodes ⟨f, l⟩ = ⟨f, l⟩ :: nodess l := by simp [nodes, hf]
  rw [hn]
  unfold countN
  rw [List.filter_cons_of_neg]
  simp
  omega
theorem nodess_app (a b : List S30) : nodess (a ++ b) = nodess a ++ nodess b := by
  induction a with
  | nil => rfl
  | cons x a ih => rw [List.cons_append, nodess, nodess, ih, List.append_assoc]
theorem nodess_split (l : List S30) (i : Nat) (hi : i < l.length) (y : S30) : nodess (l.set i y) = nodess (l.take i) ++ nodes y ++ nodess (l.drop (i + 1)) := by
  have h : l.set i y = l.take i ++ ([y] ++ l.drop (i + 1)) := by rw [List.set_eq_take_append_cons_drop, if_pos hi]; rfl
  rw [h, nodess_app, nodess_app]
  simp [nodess]
theorem nodess_split' (l : List S30) (i : Nat) (hi : i < l.length) : nodess l = nodess (l.take i) ++ nodes l[i] ++ nodess (l.drop (i + 1)) := by
  have := nodess_split l i hi l[i]
  rw [List.set_getElem_self] at this
  exact this
theorem parts_set {f : Int} {l : List S30} (hf : ¬ f < 0) : partsT ⟨f, l⟩ = l := by unfold partsT; rw [if_neg hf]
theorem at_sub : ∀ (q : List Int) (t s : S30), atT q t = some s → (∀ v, v < 0 → countN v (nodes s) ≤ countN v (nodes t)) ∧ (nodes s).length ≤ (nodes t).length ∧ (q ≠ [] → (nodes s).length < (nodes t).length) ∧ (∀ x ∈ nodes s, x ∈ nodes t)
  | [], t, s, h => by simp only [atT, Option.some.injEq] at h; subst h; exact ⟨fun _ _ => Nat.le_refl _, Nat.le_refl _, fun h => absurd rfl h, fun x hx => hx⟩
  | i :: q, t, s, h => by
    simp only [atT] at h
    by_cases hc : i < 0 ∨ ((partsT t).length : Int) ≤ i
    · rw [if_pos hc] at h; cases h
    · rw [if_neg hc] at h
      obtain ⟨hf, hi, hrd⟩ := parts_at hc
      have ih := at_sub q _ s h
      rw [hrd] at ih
      have hn : nodes t = t :: nodess t.f1 := by
        obtain ⟨f, l⟩ := t
        have hf' : ¬ f < 0 := hf
        simp [nodes, hf']
      have hsp := nodess_split' t.f1 i.toNat hi
      refine ⟨fun v hv => ?_, ?_, fun _ => ?_, fun x hx => ?_⟩
      · have h1 := ih.1 v hv
        have h2 : countN v (nodes t) = countN v (nodess t.f1) := by have := countN_nodes (f := t.f0) (l := t.f1) hf v hv; rwa [S30.eta] at this
        rw [h2, hsp, countN_append, countN_append]
        omega
      · rw [hn, List.length_cons, hsp, List.length_append, List.length_append]; have := ih.2.1; omega
      · rw [hn, List.length_cons, hsp, List.length_append, List.length_append]; have := ih.2.1; omega
      · rw [hn, hsp]
        exact List.mem_cons_of_mem _ (List.mem_append_left _ (List.mem_append_right _ (ih.2.2.2 x hx)))
theorem at_fit {q : List Int} {t s : S30} (h : atT q t = some s) (hf : fit t) : fit s := by
  have h1 := at_sub q t s h
  exact ⟨Nat.le_trans h1.2.1 hf.1, fun x hx => hf.2 x (h1.2.2.2 x hx)⟩
theorem sub_gt {q : List Int} {t s : S30} (h : atT q t = some s) (hq : q ≠ []) : gtT t s = true := by
  have h1 := at_sub q t s h
  have hlt := h1.2.2.1 hq
  have hcov : covT t s = true := by
    rw [covT_iff]
    intro v
    rw [netV_eq]
    split
    · rename_i hv
      have := h1.1 v hv
      omega
    · exact Int.le_refl _
  obtain ⟨f, l⟩ := t
  obtain ⟨g, m⟩ := s
  rw [gtT, hcov, if_neg (by omega), decide_eq_true hlt]
  rfl
mutual
theorem flatP_at : ∀ (pre : List Int) (t : S30), ∀ e ∈ flatP pre t, ∃ q, e.1 = pre ++ q ∧ atT q t = some e.2
  | pre, ⟨f, l⟩, e, he => by
    rw [flatP] at he
    rcases List.mem_cons.1 he with rfl | he
    · exact ⟨[], by simp, rfl⟩
    · split at he
      · cases he
      · rename_i hf
        obtain ⟨i, q, h1, h2, h3⟩ := flatPs_at pre 0 l e he
        refine ⟨((i : Nat) : Int) :: q, by simpa using h1, ?_⟩
        simp only [atT]
        rw [parts_set hf, if_neg (by omega), rdC_at l i h2]
        exact h3 h2
theorem flatPs_at : ∀ (pre : List Int) (k : Nat) (l : List S30), ∀ e ∈ flatPs pre k l, ∃ (i : Nat) (q : List Int), e.1 = pre ++ ((k + i : Nat) : Int) :: q ∧ i < l.length ∧ ∀ h : i < l.length, atT q l[i] = some e.2
  | _, _, [], e, he => by cases he
  | pre, k, x :: r, e, he => by
    rw [flatPs] at he
    rcases List.mem_append.1 he with he | he
    · obtain ⟨q, h1, h2⟩ := flatP_at _ x e he
      exact ⟨0, q, by rw [h1]; simp, by simp, fun _ => h2⟩
    · obtain ⟨i, q, h1, h2, h3⟩ := flatPs_at pre (k + 1) r e he
      refine ⟨i + 1, q, by rw [h1, show k + 1 + i = k + (i + 1) by omega], by simp; omega, fun h => ?_⟩
      simpa using h3 h2
end
theorem at_len : ∀ (q : List Int) (t s : S30), atT q t = some s → q.length < (nodes t).length
  | [], t, _, _ => by have := nodes_pos t; simp; omega
  | i :: q, t, s, h => by
    simp only [atT] at h
    by_cases hc : i < 0 ∨ ((partsT t).length : Int) ≤ i
    · rw [if_pos hc] at h; cases h
    · rw [if_neg hc] at h
      obtain ⟨hf, hi, hrd⟩ := parts_at hc
      have ih := at_len q _ s h
      rw [hrd] at ih
      have hn : nodes t = t :: nodess t.f1 := by
        obtain ⟨f, l⟩ := t
        have hf' : ¬ f < 0 := hf
        simp [nodes, hf']
      have hsp := nodess_split' t.f1 i.toNat hi
      rw [hn, hsp]
      simp only [List.length_cons, List.length_append]
      omega
def atR (o : Option S30) : Int × List S30 × Bool := match o with
  | some x => (x.f0, x.f1, true)
  | none => (0, [], false)
theorem At_spec : ∀ (q pre : List Int) (t : S30), fit t → (pre ++ q).length ≤ 1000000 → Ev (fun k => term_At.l0 k (pre ++ q) ((pre ++ q).length : Int) (pre.length : Int) t.f0 t.f1) (atR (atT q t))
  | [], pre, t, hf, hl => by
    refine Ev.step (f := fun _ => some (t.f0, t.f1, true)) (fun k => by rw [term_At.l0, if_neg (by simp)]) ?_
    exact Ev.now _
  | i :: q, pre, t, hf, hl => by
    have hlt : pre.length < (pre ++ i :: q).length := by simp
    have hrd : rd (pre ++ i :: q) (pre.length : Int) = i := by
      rw [rdi_at _ _ hlt]
      simp
    have hps := parts_f t
    simp only [atT]
    by_cases hc : i < 0 ∨ ((partsT t).length : Int) ≤ i
    · rw [if_pos hc]
      refine Ev.step (f := fun _ => some (0, [], false)) (fun k => ?_) (Ev.now _)
      rw [term_At.l0, if_pos (by omega), if_pos (by omega), if_pos (by omega), hps, Option.bind_some, hrd]
      by_cases h1 : i < 0
      · rw [if_pos h1]
      · rw [if_neg h1, if_pos (by omega)]
    · rw [if_neg hc]
      have hfs : fit (rd_T30 (partsT t) i) := by
        obtain ⟨h1, hi, h2⟩ := parts_at hc
        rw [h2]
        have := (fit_parts hf).2
        refine this _ ?_
        unfold partsT
        rw [if_neg h1]
        exact List.getElem_mem hi
      have ih := At_spec q (pre ++ [i]) (rd_T30 (partsT t) i) hfs (by simpa using hl)
      refine Ev.step (f := fun k => term_At.l0 k (pre ++ i :: q) ((pre ++ i :: q).length : Int) ((pre.length + 1 : Nat) : Int) (rd_T30 (partsT t) i).f0 (rd_T30 (partsT t) i).f1) (fun k => ?_) ?_
      · rw [term_At.l0, if_pos (by omega), if_pos (by omega), if_pos (by omega), hps, Option.bind_some, hrd, if_neg (by omega), if_neg (by omega), if_pos (by omega), if_pos (by omega), wsucc pre.length 1000000 (by omega) (by omega)]
      · simpa using ih
end Go.Proofs.Ytpfddihcikiofaa.P
end

section
namespace Go.Proofs.Ytpfddihcikiofaa.P
open Go.RowKit Go.Proofs.YtpfddihcikiofaaW.PrintWords Go.Proofs.YtpfddihcikiofaaW.PrintLast Go.Proofs.YtpfddihcikiofaaW.PrintMore
set_option linter.unusedVariables false
set_option linter.unusedSimpArgs false
theorem gtTs_trans : ∀ l m n : List S30, (∀ x ∈ l, ∀ y z, gtT x y = true → gtT y z = true → gtT x z = true) → gtTs l m = true → gtTs m n = true → gtTs l n = true
  | [], m, n, _, h, _ => by rw [gtTs] at h; cases h
  | _ :: _, [], n, _, h, _ => by rw [gtTs] at h; cases h
  | _ :: _, _ :: _, [], _, _, h => by rw [gtTs] at h; cases h
  | x :: l, y :: m, z :: n, ih, h1, h2 => by
    rw [gtTs] at h1 h2 ⊢
    by_cases hxy : cmpT x y = 0
    · rw [if_pos hxy] at h1
      by_cases hyz : cmpT y z = 0
      · rw [if_pos hyz] at h2
        rw [if_pos (eqv_trans hxy hyz)]
        exact gtTs_trans l m n (fun x hx => ih x (by simp [hx])) h1 h2
      · rw [if_neg hyz] at h2
        rw [if_neg (fun e => hyz (eqv_trans (eqv_symm hxy) e)), gt_congr x y z z hxy (cmp_self z)]
        exact h2
    · rw [if_neg hxy] at h1
      by_cases hyz : cmpT y z = 0
      · rw [if_neg (fun e => hxy (eqv_trans e (eqv_symm hyz))), ← gt_congr x x y z (cmp_self x) hyz]
        exact h1
      · rw [if_neg hyz] at h2
        have h3 := ih x (by simp) y z h1 h2
        rw [if_neg (gt_ne h3)]
        exact h3
theorem gt_trans : ∀ a b c : S30, gtT a b = true → gtT b c = true → gtT a c = true := by
  refine S30.ind ?_
  intro f l ih b c h1 h2
  obtain ⟨g, m⟩ := b
  obtain ⟨h, n⟩ := c
  have hl1 := gt_len h1
  have hl2 := gt_len h2
  rw [gtT, Bool.and_eq_true] at h1 h2
  rw [gtT, Bool.and_eq_true]
  refine ⟨?_, ?_⟩
  · rw [covT_iff] at *
    intro x
    have e1 := h1.1 x
    have e2 := h2.1 x
    rw [netV_eq] at *
    split at e1 <;> rename_i hx
    · rw [if_pos hx] at e2
      rw [if_pos hx]
      omega
    · rw [if_neg hx]
      exact Int.le_refl _
  · have p1 := h1.2
    have p2 := h2.2
    by_cases hn : (nodes ⟨f, l⟩).length = (nodes ⟨h, n⟩).length
    · rw [if_pos hn]
      rw [if_pos (by omega)] at p1 p2
      by_cases v1 : f < 0 ∨ g < 0
      · rw [if_pos v1] at p1; cases p1
      · rw [if_neg v1] at p1
        by_cases v2 : g < 0 ∨ h < 0
        · rw [if_pos v2] at p2; cases p2
        · rw [if_neg v2] at p2
          rw [if_neg (by omega)]
          by_cases q1 : f = g
          · subst q1
            rw [if_pos rfl] at p1
            by_cases q2 : f = h
            · subst q2
              rw [if_pos rfl] at p2
              rw [if_pos rfl]
              by_cases r1 : l.length = m.length
              · rw [if_pos r1] at p1
                by_cases r2 : m.length = n.length
                · rw [if_pos r2] at p2
                  rw [if_pos (by omega)]
                  exact gtTs_trans l m n ih p1 p2
                · rw [if_neg r2, decide_eq_true_eq] at p2
                  rw [if_neg (by omega), decide_eq_true_eq]
                  omega
              · rw [if_neg r1, decide_eq_true_eq] at p1
                by_cases r2 : m.length = n.length
                · rw [if_neg (by omega), decide_eq_true_eq]
                  omega
                · rw [if_neg r2, decide_eq_true_eq] at p2
                  rw [if_neg (by omega), decide_eq_true_eq]
                  omega
            · rw [if_neg q2] at p2 ⊢
              exact p2
          · rw [if_neg q1, decide_eq_true_eq] at p1
            by_cases q2 : g = h
            · subst q2
              rw [if_neg q1, decide_eq_true_eq]
              exact p1
            · rw [if_neg q2, decide_eq_true_eq] at p2
              rw [if_neg (by omega), decide_eq_true_eq]
              omega
    · rw [if_neg hn, decide_eq_true_eq]
      omega
theorem gt_irrefl (a : S30) : gtT a a = false := gt_same (cmp_self a)
theorem places_ne (a : S30) (k : Nat) (hk : k < ((flatP [] a).map Prod.fst).length) (h1 : 1 ≤ k) : ((flatP [] a).map Prod.fst).getD k [] ≠ [] := by
  obtain ⟨f, l⟩ := a
  rw [flatP] at hk ⊢
  obtain ⟨j, rfl⟩ : ∃ j, k = j + 1 := ⟨k - 1, by omega⟩
  rw [List.map_cons, List.getD_cons_succ]
  rw [List.map_cons, List.length_cons] at hk
  split
  · rename_i hf
    rw [if_pos hf] at hk
    simp at hk
  · rename_i hf
    rw [if_neg hf] at hk
    have hj : j < ((flatPs [] 0 l).map Prod.fst).length := by omega
    have hm : ((flatPs [] 0 l).map Prod.fst).getD j [] ∈ (flatPs [] 0 l).map Prod.fst := by
      rw [List.getD_eq_getElem?_getD, List.getElem?_eq_getElem hj, Option.getD_some]
      exact List.getElem_mem hj
    obtain ⟨e, he, e1⟩ := List.mem_map.1 hm
    obtain ⟨i, q, h2, _⟩ := flatPs_at [] 0 l e he
    rw [← e1, h2]
    simp
end Go.Proofs.Ytpfddihcikiofaa.P
end

section
namespace Go.Proofs.Ytpfddihcikiofaa.P
open Go.RowKit Go.Proofs.YtpfddihcikiofaaW.PrintWords Go.Proofs.YtpfddihcikiofaaW.PrintLast Go.Proofs.YtpfddihcikiofaaW.PrintMore
set_option linter.unusedVariables false
set_option linter.unusedSimpArgs false
set_option maxHeartbeats 4000000 in
set_option maxRecDepth 100000 in
theorem KboRules_r12 {id : Nat} {a : Act} {w : World} {Q : Exit → Act → World → Prop} {i : Int} {ga m cl lq cq : Nat} {xf xl : Value} {r : S30} {b : Bool} {ad : Addr} {Aq : Option Addr}
    (hr : regionOk #[{ dst := some 66, op := Op.load 30 (Operand.tmp 7), type := 30, pos := "law.go:47", after := #[], guard := none }, { dst := some 67, op := Op.move (Operand.tmp 10), type := 32, pos := "law.go:47", after := #[], guard := none }, { dst := some 68, op := Op.move (Operand.tmp 11), type := 3, pos := "law.go:47", after := #[], guard := none }, { dst := some 69, op := Op.indexAddr 32 (Operand.tmp 67) (Operand.tmp 68), type := 0, pos := "law.go:47", after := #[{ on := 1, ground := Ground.data }, { on := 2, ground := Ground.data }], guard := none }, { dst := some 70, op := Op.load 25 (Operand.tmp 69), type := 25, pos := "law.go:47", after := #[{ on := 3, ground := Ground.data }], guard := none }, { dst := some 71, op := Op.call { callee := Callee.value (Operand.func 27), args := #[Operand.tmp 66, Operand.tmp 70], argTypes := #[30, 25] }, type := 37, pos := "law.go:47", after := #[{ on := 0, ground := Ground.data }, { on := 4, ground := Ground.data }], guard := none }, { dst := some 65, op := Op.move (Operand.tmp 71), type := 37, pos := "law.go:47", after := #[{ on := 5, ground := Ground.data }], guard := none }, { dst := some 72, op := Op.extract (Operand.tmp 65) 0, type := 30, pos := "law.go:47", after := #[{ on := 6, ground := Ground.data }], guard := none }, { dst := some 73, op := Op.extract (Operand.tmp 65) 1, type := 4, pos := "law.go:47", after := #[{ on := 6, ground := Ground.data }, { on := 10, ground := Ground.gcOnly Departure.lateStores }], guard := none }, { dst := some 12, op := Op.alloc 30, type := 0, pos := "law.go:47", after := #[], guard := none }, { dst := none, op := Op.store 30 (Operand.tmp 12) (Operand.tmp 72), type := 0, pos := "law.go:47", after := #[{ on := 9, ground := Ground.data }, { on := 7, ground := Ground.data }, { on := 5, ground := Ground.chain }, { on := 0, ground := Ground.phase }, { on := 1, ground := Ground.phase }, { on := 2, ground := Ground.phase }, { on := 3, ground := Ground.phase }, { on := 4, ground := Ground.phase }, { on := 5, ground := Ground.phase }, { on := 6, ground := Ground.phase }, { on := 7, ground := Ground.phase }, { on := 8, ground := Ground.textOnly Departure.lateStores }, { on := 9, ground := Ground.phase }], guard := none }, { dst := some 13, op := Op.assign (Operand.tmp 73), type := 4, pos := "law.go:47", after := #[{ on := 8, ground := Ground.data }, { on := 10, ground := Ground.chain }, { on := 0, ground := Ground.phase }, { on := 1, ground := Ground.phase }, { on := 2, ground := Ground.phase }, { on := 3, ground := Ground.phase }, { on := 4, ground := Ground.phase }, { on := 5, ground := Ground.phase }, { on := 6, ground := Ground.phase }, { on := 7, ground := Ground.phase }, { on := 8, ground := Ground.phase }, { on := 9, ground := Ground.phase }, { on := 10, ground := Ground.phase }], guard := none }] a.tmps.size = true)
    (hT10 : a.tmps.getD 10 undef = .slice (some ad) m cl)
    (hT11 : a.tmps.getD 11 undef = .int .i64 i)
    (hT7 : a.tmps.getD 7 undef = .pointer (some ⟨ga, 0, none⟩)) (hX7 : w.heap[ga]? = some (.cells #[xf, xl] 30 (0, 0)))
    (hi : 0 ≤ i ∧ i < m) (hc0 : w.cell? (ad.add i.toNat) = some (.slice Aq lq cq))
    (hF : ∀ w1, Below w.heap.size w w1 → Calls Try.prog 27 #[.agg #[xf, xl], .slice Aq lq cq] w1 fun e w2 => ∃ A' c', e = .returned (.tuple #[.agg #[.int .i64 r.f0, .slice A' r.f1.length c'], .bool b]) ∧ r.f1.length ≤ c' ∧ Kd.F k30 w2 (fun k => k < w.heap.size ∨ w1.heap.size ≤ k) A' r.f1.length r.f1 ∧ Below w1.heap.size w1 w2)
    (hK : ∀ v w' g A' c', Below w.heap.size w w' → v 11 = .bool b → v 9 = .pointer (some ⟨g, 0, none⟩) → w.heap.size ≤ g → w'.heap[g]? = some (.cells #[.int .i64 r.f0, .slice A' r.f1.length c'] 30 (0, 0)) → r.f1.length ≤ c' → Kd.F k30 w' (fun k => k ≠ g) A' r.f1.length r.f1 → Q .normal { tmps := layL [some 66, some 67, some 68, some 69, some 70, some 71, some 65, some 72, some 73, some 12, none, some 13] 0 v a.tmps, defers := a.defers } w') :
    (Code.region id #[{ dst := some 66, op := Op.load 30 (Operand.tmp 7), type := 30, pos := "law.go:47", after := #[], guard := none }, { dst := some 67, op := Op.move (Operand.tmp 10), type := 32, pos := "law.go:47", after := #[], guard := none }, { dst := some 68, op := Op.move (Operand.tmp 11), type := 3, pos := "law.go:47", after := #[], guard := none }, { dst := some 69, op := Op.indexAddr 32 (Operand.tmp 67) (Operand.tmp 68), type := 0, pos := "law.go:47", after := #[{ on := 1, ground := Ground.data }, { on := 2, ground := Ground.data }], guard := none }, { dst := some 70, op := Op.load 25 (Operand.tmp 69), type := 25, pos := "law.go:47", after := #[{ on := 3, ground := Ground.data }], guard := none }, { dst := some 71, op := Op.call { callee := Callee.value (Operand.func 27), args := #[Operand.tmp 66, Operand.tmp 70], argTypes := #[30, 25] }, type := 37, pos := "law.go:47", after := #[{ on := 0, ground := Ground.data }, { on := 4, ground := Ground.data }], guard := none }, { dst := some 65, op := Op.move (Operand.tmp 71), type := 37, pos := "law.go:47", after := #[{ on := 5, ground := Ground.data }], guard := none }, { dst := some 72, op := Op.extract (Operand.tmp 65) 0, type := 30, pos := "law.go:47", after := #[{ on := 6, ground := Ground.data }], guard := none }, { dst := some 73, op := Op.extract (Operand.tmp 65) 1, type := 4, pos := "law.go:47", after := #[{ on := 6, ground := Ground.data }, { on := 10, ground := Ground.gcOnly Departure.lateStores }], guard := none }, { dst := some 12, op := Op.alloc 30, type := 0, pos := "law.go:47", after := #[], guard := none }, { dst := none, op := Op.store 30 (Operand.tmp 12) (Operand.tmp 72), type := 0, pos := "law.go:47", after := #[{ on := 9, ground := Ground.data }, { on := 7, ground := Ground.data }, { on := 5, ground := Ground.chain }, { on := 0, ground := Ground.phase }, { on := 1, ground := Ground.phase }, { on := 2, ground := Ground.phase }, { on := 3, ground := Ground.phase }, { on := 4, ground := Ground.phase }, { on := 5, ground := Ground.phase }, { on := 6, ground := Ground.phase }, { on := 7, ground := Ground.phase }, { on := 8, ground := Ground.textOnly Departure.lateStores }, { on := 9, ground := Ground.phase }], guard := none }, { dst := some 13, op := Op.assign (Operand.tmp 73), type := 4, pos := "law.go:47", after := #[{ on := 8, ground := Ground.data }, { on := 10, ground := Ground.chain }, { on := 0, ground := Ground.phase }, { on := 1, ground := Ground.phase }, { on := 2, ground := Ground.phase }, { on := 3, ground := Ground.phase }, { on := 4, ground := Ground.phase }, { on := 5, ground := Ground.phase }, { on := 6, ground := Ground.phase }, { on := 7, ground := Ground.phase }, { on := 8, ground := Ground.phase }, { on := 9, ground := Ground.phase }, { on := 10, ground := Ground.phase }], guard := none }] true).wp Try.prog Q a w := by
  have hmx : Try.prog.follows .mixedOrders = true := by kernel_rfl
  have hJo : ∀ i, i ∉ [5, 6, 7, 9, 10] → ∀ v d (w1 w2 : World) u, (RetJ w.heap.size 30 [(5, TupF k30 r b (fun _ => True)), (6, TupF k30 r b (fun _ => True)), (7, TermF k30 r (fun _ => True))] 9 10 7) v d w1 → d i = false → Below w1.heap.size w1 w2 → (RetJ w.heap.size 30 [(5, TupF k30 r b (fun _ => True)), (6, TupF k30 r b (fun _ => True)), (7, TermF k30 r (fun _ => True))] 9 10 7) (upd v i u) (upd d i true) w2 := fun i hi v d w1 w2 u h hd hb => RetJ.val h hd (fun e => hi (by simp [← e])) (fun e => hi (by simp [← e])) hb (fun q hq e => absurd (by simp only [List.mem_cons, List.not_mem_nil, or_false] at hq; rcases hq with rfl | rfl | rfl <;> simp [← e]) hi)
  refine region_detJ (fun _ _ => True) (RetJ w.heap.size 30 [(5, TupF k30 r b (fun _ => True)), (6, TupF k30 r b (fun _ => True)), (7, TermF k30 r (fun _ => True))] 9 10 7) 12 (trivial) (fun v => RetJ.start w.drew (Nat.le_refl w.heap.size) v) hmx hr rfl ?_
  refine DetJ.is (o := { dst := some 66, op := Op.load 30 (Operand.tmp 7), type := 30, pos := "law.go:47", after := #[], guard := none }) (u := ?ux60) (fun _ _ _ => trivial) [5, 6, 7, 9, 10] hJo rfl (by decide) (by decide) (fun T w' hb hd hB K hK => ?sx60) ?rx60
  case sx60 =>
    have e7 := (hB 7 (by kernel_rfl)).trans hT7
    have q7_0 : w'.cell? ⟨ga, 0, none⟩ = some (xf) := (blk_cell (blk_below hX7 hb) 0).trans rfl
    have q7_1 : w'.cell? ⟨ga, 1, none⟩ = some (xl) := (blk_cell (blk_below hX7 hb) 1).trans rfl
    rw [if_pos (wanted_none _ rfl)]
    clear hd hB
    go_simp
    exact hK _ (Below.refl _ _)
  refine DetJ.is (o := { dst := some 67, op := Op.move (Operand.tmp 10), type := 32, pos := "law.go:47", after := #[], guard := none }) (u := ?ux61) (fun _ _ _ => trivial) [5, 6, 7, 9, 10] hJo rfl (by decide) (by decide) (fun T w' hb hd hB K hK => ?sx61) ?rx61
  case sx61 =>
    have e10 := (hB 10 (by kernel_rfl)).trans hT10
    rw [if_pos (wanted_none _ rfl)]
    clear hd hB
    go_simp
    exact hK _ (Below.refl _ _)
  refine DetJ.is (o := { dst := some 68, op := Op.move (Operand.tmp 11), type := 3, pos := "law.go:47", after := #[], guard := none }) (u := ?ux62) (fun _ _ _ => trivial) [5, 6, 7, 9, 10] hJo rfl (by decide) (by decide) (fun T w' hb hd hB K hK => ?sx62) ?rx62
  case sx62 =>
    have e11 := (hB 11 (by kernel_rfl)).trans hT11
    rw [if_pos (wanted_none _ rfl)]
    clear hd hB
    go_simp
    exact hK _ (Below.refl _ _)
  refine DetJ.is (o := { dst := some 69, op := Op.indexAddr 32 (Operand.tmp 67) (Operand.tmp 68), type := 0, pos := "law.go:47", after := #[{ on := 1, ground := Ground.data }, { on := 2, ground := Ground.data }], guard := none }) (u := .pointer (some (ad.add i.toNat))) (fun _ _ _ => trivial) [5, 6, 7, 9, 10] hJo rfl (by decide) (by decide) (fun T w' hb hd hB K hK => ?sx63) ?rx63
  case sx63 =>
    have e67 := hd 1 67 _ (by decide) (by kernel_rfl) rfl rfl
    replace e67 : T.getD 67 undef = _ := e67
    have e68 := hd 2 68 _ (by decide) (by kernel_rfl) rfl rfl
    replace e68 : T.getD 68 undef = _ := e68
    rw [if_pos (wanted_none _ rfl)]
    have hi0 := hi.1
    have hi1 := hi.2
    clear hd hB
    go_simp
    exact hK _ (Below.refl _ _)
  refine DetJ.is (o := { dst := some 70, op := Op.load 25 (Operand.tmp 69), type := 25, pos := "law.go:47", after := #[{ on := 3, ground := Ground.data }], guard := none }) (u := ?ux64) (fun _ _ _ => trivial) [5, 6, 7, 9, 10] hJo rfl (by decide) (by decide) (fun T w' hb hd hB K hK => ?sx64) ?rx64
  case sx64 =>
    have e69 := hd 3 69 _ (by decide) (by kernel_rfl) rfl rfl
    replace e69 : T.getD 69 undef = _ := e69
    rw [if_pos (wanted_none _ rfl)]
    have hc0' := (hb.cell (cell_lt' hc0)).trans hc0
    clear hd hB
    go_simp
    exact hK _ (Below.refl _ _)
  refine DetJ.cons (o := { dst := some 71, op := Op.call { callee := Callee.value (Operand.func 27), args := #[Operand.tmp 66, Operand.tmp 70], argTypes := #[30, 25] }, type := 37, pos := "law.go:47", after := #[{ on := 0, ground := Ground.data }, { on := 4, ground := Ground.data }], guard := none }) (fun _ _ => True) rfl (by decide) (fun _ _ _ _ _ => trivial) (fun v d T w' hb hj hd0 hd hdd hB K hK => ?sx65) ?rx65
  case sx65 =>
    have e66 := hd 0 66 _ (by decide) (by kernel_rfl) rfl rfl
    replace e66 : T.getD 66 undef = _ := e66
    have e70 := hd 4 70 _ (by decide) (by kernel_rfl) rfl rfl
    replace e70 : T.getD 70 undef = _ := e70
    rw [if_pos (wanted_none _ rfl)]
    have hcl := hF w' hb
    clear hd hdd hB
    go_simp
    go_at_call 27
    refine hcl.mono ?_
    rintro e w2 ⟨A', c', rfl, hl', hF', hb'⟩
    have hfp : (TupF k30 r b (fun _ => True)).p (fun k => okF 9 v d k ∨ w'.heap.size ≤ k) (.tuple #[.agg #[.int .i64 r.f0, .slice A' r.f1.length c'], .bool b]) w2 := ⟨_, _, rfl, hl', Kd.F_mono hF' (fun k hk => ⟨hk.elim (fun h => .inl (RetJ.old hj h)) .inr, trivial⟩)⟩
    exact hK _ _ trivial (hb.trans (hb'.mono hb.size)) trivial (RetJ.val hj hd0 (by decide) (by decide) hb' (fun q hq e => by simp only [List.mem_cons, List.not_mem_nil, or_false] at hq; rcases hq with rfl | rfl | rfl <;> first | exact hfp | exact absurd e (by simp)))
  refine DetJ.cons (o := { dst := some 65, op := Op.move (Operand.tmp 71), type := 37, pos := "law.go:47", after := #[{ on := 5, ground := Ground.data }], guard := none }) (fun _ _ => True) rfl (by decide) (fun _ _ _ _ _ => trivial) (fun v d T w' hb hj hd0 hd hdd hB K hK => ?sx66) ?rx66
  case sx66 =>
    have e71 := (hdd 5 (by kernel_rfl)).2 71 rfl
    rw [if_pos (wanted_none _ rfl)]
    have xq := (hdd 5 (by kernel_rfl)).1
    obtain ⟨Aq, cq, yq, hlq, hFq⟩ := hj.2.1 (5, TupF k30 r b (fun _ => True)) (by simp) xq
    replace e71 := e71.trans yq
    clear hd hdd hB
    go_simp
    exact hK _ _ trivial hb trivial (RetJ.val hj hd0 (by decide) (by decide) (Below.refl _ _) (fun q hq e => by simp only [List.mem_cons, List.not_mem_nil, or_false] at hq; rcases hq with rfl | rfl | rfl <;> first | exact ⟨_, _, rfl, hlq, Kd.F_mono hFq (fun k hk => ⟨.inl hk.1, trivial⟩)⟩ | exact absurd e (by simp)))
  refine DetJ.cons (o := { dst := some 72, op := Op.extract (Operand.tmp 65) 0, type := 30, pos := "law.go:47", after := #[{ on := 6, ground := Ground.data }], guard := none }) (fun _ _ => True) rfl (by decide) (fun _ _ _ _ _ => trivial) (fun v d T w' hb hj hd0 hd hdd hB K hK => ?sx67) ?rx67
  case sx67 =>
    have e65 := (hdd 6 (by kernel_rfl)).2 65 rfl
    rw [if_pos (wanted_none _ rfl)]
    have xq := (hdd 6 (by kernel_rfl)).1
    obtain ⟨Aq, cq, yq, hlq, hFq⟩ := hj.2.1 (6, TupF k30 r b (fun _ => True)) (by simp) xq
    replace e65 := e65.trans yq
    clear hd hdd hB
    go_simp
    exact hK _ _ trivial hb trivial (RetJ.val hj hd0 (by decide) (by decide) (Below.refl _ _) (fun q hq e => by simp only [List.mem_cons, List.not_mem_nil, or_false] at hq; rcases hq with rfl | rfl | rfl <;> first | exact ⟨_, _, rfl, hlq, Kd.F_mono hFq (fun k hk => ⟨.inl hk.1, trivial⟩)⟩ | exact absurd e (by simp)))
  refine DetJ.cons (o := { dst := some 73, op := Op.extract (Operand.tmp 65) 1, type := 4, pos := "law.go:47", after := #[{ on := 6, ground := Ground.data }, { on := 10, ground := Ground.gcOnly Departure.lateStores }], guard := none }) (Told.is (.bool b)) rfl (by decide) (fun _ _ _ h _ => h) (fun v d T w' hb hj hd0 hd hdd hB K hK => ?sx68) ?rx68
  case sx68 =>
    have e65 := (hdd 6 (by kernel_rfl)).2 65 rfl
    rw [if_pos (wanted_none _ rfl)]
    have xq := (hdd 6 (by kernel_rfl)).1
    obtain ⟨Aq, cq, yq, hlq, hFq⟩ := hj.2.1 (6, TupF k30 r b (fun _ => True)) (by simp) xq
    replace e65 := e65.trans yq
    clear hd hdd hB
    go_simp
    exact hK _ _ trivial hb rfl (RetJ.val hj hd0 (by decide) (by decide) (Below.refl _ _) (fun q hq e => by simp only [List.mem_cons, List.not_mem_nil, or_false] at hq; rcases hq with rfl | rfl | rfl <;> first | exact absurd e (by simp) | exact absurd e (by simp)))
  refine DetJ.cons (o := { dst := some 12, op := Op.alloc 30, type := 0, pos := "law.go:47", after := #[], guard := none }) (fun _ _ => True) rfl (by decide) (fun _ _ _ _ _ => trivial) (fun v d T w' hb hj hd0 hd hdd hB K hK => ?sx69) ?rx69
  case sx69 =>
    rw [if_pos (wanted_none _ rfl)]
    clear hd hdd hB
    go_simp
    exact hK _ _ trivial (below_alloc hb _) trivial (RetJ.alloc hj hd0 (by decide) (by decide) (by intro q hq; simp only [List.mem_cons, List.not_mem_nil, or_false] at hq; rcases hq with rfl | rfl | rfl <;> simp))
  refine DetJ.cons (o := { dst := none, op := Op.store 30 (Operand.tmp 12) (Operand.tmp 72), type := 0, pos := "law.go:47", after := #[{ on := 9, ground := Ground.data }, { on := 7, ground := Ground.data }, { on := 5, ground := Ground.chain }, { on := 0, ground := Ground.phase }, { on := 1, ground := Ground.phase }, { on := 2, ground := Ground.phase }, { on := 3, ground := Ground.phase }, { on := 4, ground := Ground.phase }, { on := 5, ground := Ground.phase }, { on := 6, ground := Ground.phase }, { on := 7, ground := Ground.phase }, { on := 8, ground := Ground.textOnly Departure.lateStores }, { on := 9, ground := Ground.phase }], guard := none }) (fun _ _ => True) rfl (by decide) (fun _ _ _ _ _ => trivial) (fun v d T w' hb hj hd0 hd hdd hB K hK => ?sx70) ?rx70
  case sx70 =>
    have e12 := (hdd 9 (by kernel_rfl)).2 12 rfl
    have e72 := (hdd 7 (by kernel_rfl)).2 72 rfl
    rw [if_pos (wanted_none _ rfl)]
    have ea := (hdd 9 (by kernel_rfl)).1
    have xx := (hdd 7 (by kernel_rfl)).1
    obtain ⟨Ax, cx, yx, hlx, hFx⟩ := hj.2.1 (7, TermF k30 r (fun _ => True)) (by simp) xx
    have vx := (hdd 7 (by kernel_rfl)).2 72 rfl
    obtain ⟨g, va, hge, hlt, hbx⟩ := hj.2.2.1 ea
    rw [if_neg (by rw [hd0]; decide)] at hbx
    replace e12 := e12.trans va
    replace e72 := e72.trans yx
    have q0 : w'.cell? ⟨g, 0, none⟩ = some (.int .i64 0) := (blk_cell hbx 0).trans rfl
    have q1 : w'.cell? ⟨g, 1, none⟩ = some (.slice none 0 0) := (blk_cell hbx 1).trans rfl
    have z0 := blk_frozen hbx 0
    have z1 := blk_frozen hbx 1
    have hd0' := Aside0.mk hd0
    have yx' := Aside0.mk yx
    have va' := Aside0.mk va
    clear hd hdd hB vx hd0 yx va
    go_simp
    refine hK undef _ trivial ((hb.setCell hge _).setCell hge _) trivial (RetJ.store hj hd0'.out (by decide) (by decide) (by intro q hq; simp only [List.mem_cons, List.not_mem_nil, or_false] at hq; rcases hq with rfl | rfl | rfl <;> simp) ea xx va'.out ?_ (fun k hk => setCell2_far k hk) (by rw [setCell_size, setCell_size]))
    refine (blk_set (blk_set hbx 0 _) 1 _).trans ?_
    rw [yx'.out]
    rfl
  refine DetJ.is (o := { dst := some 13, op := Op.assign (Operand.tmp 73), type := 4, pos := "law.go:47", after := #[{ on := 8, ground := Ground.data }, { on := 10, ground := Ground.chain }, { on := 0, ground := Ground.phase }, { on := 1, ground := Ground.phase }, { on := 2, ground := Ground.phase }, { on := 3, ground := Ground.phase }, { on := 4, ground := Ground.phase }, { on := 5, ground := Ground.phase }, { on := 6, ground := Ground.phase }, { on := 7, ground := Ground.phase }, { on := 8, ground := Ground.phase }, { on := 9, ground := Ground.phase }, { on := 10, ground := Ground.phase }], guard := none }) (u := ?ux71) (fun _ _ _ => trivial) [5, 6, 7, 9, 10] hJo rfl (by decide) (by decide) (fun T w' hb hd hB K hK => ?sx71) ?rx71
  case sx71 =>
    have e73 := hd 8 73 _ (by decide) (by kernel_rfl) rfl rfl
    replace e73 : T.getD 73 undef = _ := e73
    rw [if_pos (wanted_none _ rfl)]
    clear hd hB
    go_simp
    exact hK _ (Below.refl _ _)
  refine DetJ.done [some 66, some 67, some 68, some 69, some 70, some 71, some 65, some 72, some 73, some 12, none, some 13] (by kernel_rfl) rfl rfl ?_
  intro v d w' hb hv hall hj
  obtain ⟨g, A', c', h1, h2, h3, h4, h5⟩ := RetJ.box hj (x := r) (kd := k30) (by simp; rfl) (hall 9 (by decide)) (hall 10 (by decide)) (hall 7 (by decide))
  exact hK v w' g A' c' hb (hv 11 _ (by decide) rfl) h1 h2 h3 h4 (Kd.F_mono h5 (fun k hk => hk.2))
set_option maxHeartbeats 8000000 in
set_option maxRecDepth 100000 in
theorem KboRules_walk (a b d : S24) (A : Option Addr) (c : Nat) (A' : Option Addr) (c' : Nat) (A2 : Option Addr) (c2 : Nat) (w : World)
    (hA : k24.C w A a.f1.length a.f1) (hc : a.f1.length ≤ c) (hA' : k24.C w A' b.f1.length b.f1) (hc' : b.f1.length ≤ c') (hA2 : k24.C w A2 d.f1.length d.f1) (hc2 : d.f1.length ≤ c2) :
    Calls Try.prog 11 #[.agg #[.int .i64 a.f0, .slice A a.f1.length c], .agg #[.int .i64 b.f0, .slice A' b.f1.length c'], .agg #[.int .i64 d.f0, .slice A2 d.f1.length c2]] w fun e w' => e = .returned (.bool true) ∧ Below w.heap.size w w' := by
  have hmx : Try.prog.follows .mixedOrders = true := by kernel_rfl
  obtain ⟨ok, hFine, hok⟩ := Fine_spec [a, b, d] (by simp)
  obtain ⟨kF, hF⟩ := hFine.rounds
  have hbA : Aside0 (∀ w1, Below w.heap.size w w1 → k24.C w1 A a.f1.length a.f1) := ⟨fun w1 h => Kd.C_below hA h⟩
  have hbB : Aside0 (∀ w1, Below w.heap.size w w1 → k24.C w1 A' b.f1.length b.f1) := ⟨fun w1 h => Kd.C_below hA' h⟩
  have hbD : Aside0 (∀ w1, Below w.heap.size w w1 → k24.C w1 A2 d.f1.length d.f1) := ⟨fun w1 h => Kd.C_below hA2 h⟩
  clear hA hA' hA2 hFine
  obtain ⟨kz, hal⟩ := alive10.rounds
  go_enter Try.func11, Try.ntmps11
  cases ok with
  | false =>
    go_wp2_with (first | (go_at_call 40; refine (soriteslaw10_alive.calls kz true _ hal).mono ?_; rintro e w1 ⟨rfl, hb1⟩; have hs1 := hb1.size; simp only [World.size_alloc] at hs1; have hB1 : Below w.heap.size w w1 := (below_alloc (below_alloc (below_alloc (Below.refl _ _) _) _) _).trans (hb1.mono (by simp; omega)); have hg0 : w1.heap[w.heap.size]? = some (.cells #[.int .i64 a.f0, .slice A a.f1.length c] 24 (0, 0)) := blk_below (blk_alloc (blk_alloc (heap_alloc_new _ _) _) _) hb1; have hg1 : w1.heap[w.heap.size + 1]? = some (.cells #[.int .i64 b.f0, .slice A' b.f1.length c'] 24 (0, 0)) := blk_below (blk_alloc (by have := heap_alloc_new (w.alloc (.cells #[.int .i64 a.f0, .slice A a.f1.length c] 24)) (.cells #[.int .i64 b.f0, .slice A' b.f1.length c'] 24); rw [World.size_alloc] at this; exact this) _) hb1; have hg2 : w1.heap[w.heap.size + 1 + 1]? = some (.cells #[.int .i64 d.f0, .slice A2 d.f1.length c2] 24 (0, 0)) := blk_below (by have := heap_alloc_new ((w.alloc (.cells #[.int .i64 a.f0, .slice A a.f1.length c] 24)).alloc (.cells #[.int .i64 b.f0, .slice A' b.f1.length c'] 24)) (.cells #[.int .i64 d.f0, .slice A2 d.f1.length c2] 24); rw [World.size_alloc, World.size_alloc] at this; exact this) hb1; have hx0 : w1.cell? ⟨w.heap.size, 0, none⟩ = some (.int .i64 a.f0) := (blk_cell hg0 0).trans rfl; have hx1 : w1.cell? ⟨w.heap.size, 1, none⟩ = some (.slice A a.f1.length c) := (blk_cell hg0 1).trans rfl; have hy0 : w1.cell? ⟨w.heap.size + 1, 0, none⟩ = some (.int .i64 b.f0) := (blk_cell hg1 0).trans rfl; have hy1 : w1.cell? ⟨w.heap.size + 1, 1, none⟩ = some (.slice A' b.f1.length c') := (blk_cell hg1 1).trans rfl; have hz0 : w1.cell? ⟨w.heap.size + 1 + 1, 0, none⟩ = some (.int .i64 d.f0) := (blk_cell hg2 0).trans rfl; have hz1 : w1.cell? ⟨w.heap.size + 1 + 1, 1, none⟩ = some (.slice A2 d.f1.length c2) := (blk_cell hg2 1).trans rfl) | (go_at_call 21; refine (soriteslaw06_Fine.calls kF _ 3 [a, b, d] _ _ (C3 k24 rfl (K24 (hbA.out _ (below_alloc hB1 _)) hc) (K24 (hbB.out _ (below_alloc hB1 _)) hc') (K24 (hbD.out _ (below_alloc hB1 _)) hc2) (heap_alloc_new _ _)) (by simp) hF).mono ?_; rintro e w2 ⟨rfl, hb2⟩; have hB2 : Below w.heap.size w w2 := (below_alloc hB1 _).trans (hb2.mono (by simp; omega)); have hh0 := blk_below (blk_alloc hg0 _) hb2; have hh1 := blk_below (blk_alloc hg1 _) hb2; have hh2 := blk_below (blk_alloc hg2 _) hb2))
    go_ret
    exact ⟨rfl, hB2⟩
  | true =>
    go_wp2_with (first | (go_at_call 40; refine (soriteslaw10_alive.calls kz true _ hal).mono ?_; rintro e w1 ⟨rfl, hb1⟩; have hs1 := hb1.size; simp only [World.size_alloc] at hs1; have hB1 : Below w.heap.size w w1 := (below_alloc (below_alloc (below_alloc (Below.refl _ _) _) _) _).trans (hb1.mono (by simp; omega)); have hg0 : w1.heap[w.heap.size]? = some (.cells #[.int .i64 a.f0, .slice A a.f1.length c] 24 (0, 0)) := blk_below (blk_alloc (blk_alloc (heap_alloc_new _ _) _) _) hb1; have hg1 : w1.heap[w.heap.size + 1]? = some (.cells #[.int .i64 b.f0, .slice A' b.f1.length c'] 24 (0, 0)) := blk_below (blk_alloc (by have := heap_alloc_new (w.alloc (.cells #[.int .i64 a.f0, .slice A a.f1.length c] 24)) (.cells #[.int .i64 b.f0, .slice A' b.f1.length c'] 24); rw [World.size_alloc] at this; exact this) _) hb1; have hg2 : w1.heap[w.heap.size + 1 + 1]? = some (.cells #[.int .i64 d.f0, .slice A2 d.f1.length c2] 24 (0, 0)) := blk_below (by have := heap_alloc_new ((w.alloc (.cells #[.int .i64 a.f0, .slice A a.f1.length c] 24)).alloc (.cells #[.int .i64 b.f0, .slice A' b.f1.length c'] 24)) (.cells #[.int .i64 d.f0, .slice A2 d.f1.length c2] 24); rw [World.size_alloc, World.size_alloc] at this; exact this) hb1; have hx0 : w1.cell? ⟨w.heap.size, 0, none⟩ = some (.int .i64 a.f0) := (blk_cell hg0 0).trans rfl; have hx1 : w1.cell? ⟨w.heap.size, 1, none⟩ = some (.slice A a.f1.length c) := (blk_cell hg0 1).trans rfl; have hy0 : w1.cell? ⟨w.heap.size + 1, 0, none⟩ = some (.int .i64 b.f0) := (blk_cell hg1 0).trans rfl; have hy1 : w1.cell? ⟨w.heap.size + 1, 1, none⟩ = some (.slice A' b.f1.length c') := (blk_cell hg1 1).trans rfl; have hz0 : w1.cell? ⟨w.heap.size + 1 + 1, 0, none⟩ = some (.int .i64 d.f0) := (blk_cell hg2 0).trans rfl; have hz1 : w1.cell? ⟨w.heap.size + 1 + 1, 1, none⟩ = some (.slice A2 d.f1.length c2) := (blk_cell hg2 1).trans rfl) | (go_at_call 21; refine (soriteslaw06_Fine.calls kF _ 3 [a, b, d] _ _ (C3 k24 rfl (K24 (hbA.out _ (below_alloc hB1 _)) hc) (K24 (hbB.out _ (below_alloc hB1 _)) hc') (K24 (hbD.out _ (below_alloc hB1 _)) hc2) (heap_alloc_new _ _)) (by simp) hF).mono ?_; rintro e w2 ⟨rfl, hb2⟩; have hB2 : Below w.heap.size w w2 := (below_alloc hB1 _).trans (hb2.mono (by simp; omega)); have hh0 := blk_below (blk_alloc hg0 _) hb2; have hh1 := blk_below (blk_alloc hg1 _) hb2; have hh2 := blk_below (blk_alloc hg2 _) hb2))
    have hoka := hok trivial a (by simp)
    have hokb := hok trivial b (by simp)
    have hokd := hok trivial d (by simp)
    refine of_three (x0 := a) (x1 := b) (x2 := d) (g0 := w.heap.size) (g1 := w.heap.size + 1) (g2 := w.heap.size + 1 + 1) (by kernel_rfl) (by kernel_rfl) rfl hh0 (hbA.out _ hB2) hc hoka.1 rfl hh1 (hbB.out _ hB2) hc' hokb.1 rfl hh2 (hbD.out _ hB2) hc2 hokd.1 ?_
    intro w3 X0 q0 h0 X1 q1 h1 X2 q2 h2 hb3 hge0 hx0' hq0 hC0 hge1 hx1' hq1 hC1 hge2 hx2' hq2 hC2
    have HB3 := Aside0.mk (hB2.trans (hb3.mono hB2.size))
    have HC0 := Aside0.mk hC0
    have HC1 := Aside0.mk hC1
    have HC2 := Aside0.mk hC2
    have HX0 := Aside0.mk hx0'
    have HX1 := Aside0.mk hx1'
    have HX2 := Aside0.mk hx2'
    have hna := Nat.le_trans (nodes_le a) hoka.2
    have hnb := Nat.le_trans (nodes_le b) hokb.2
    have hnd := Nat.le_trans (nodes_le d) hokd.2
    have hfa := fit_of_ok a hoka.1 (by omega)
    have hfb := fit_of_ok b hokb.1 (by omega)
    have hfd := fit_of_ok d hokd.1 (by omega)
    have hpl := Places_is (t := a) (by omega)
    obtain ⟨ls, hls⟩ : ∃ ls, ls = (flatP [] a).map Prod.fst := ⟨_, rfl⟩
    rw [← hls] at hpl
    have hll : ls.length = (nodes a).length := by rw [hls, List.length_map, flatP_len]
    have hlp : 1 ≤ ls.length := by have := nodes_pos a; omega
    have hlm : ls.length ≤ 60 := by omega
    have hall : ∀ k, 1 ≤ k → k < ls.length → ∃ s1, atT (ls.getD k []) a = some s1 ∧ (ls.getD k []).length ≤ 60 ∧ gtT a s1 = true ∧ fit s1 := by
      intro k hk1 hk
      have hne := places_ne a k (by rw [← hls]; exact hk) hk1
      rw [← hls] at hne
      have hm : ls.getD k [] ∈ (flatP [] a).map Prod.fst := by rw [← hls, List.getD_eq_getElem?_getD, List.getElem?_eq_getElem hk, Option.getD_some]; exact List.getElem_mem hk
      obtain ⟨e, he, e1⟩ := List.mem_map.1 hm
      obtain ⟨q', g1, g2⟩ := flatP_at [] a e he
      have g3 : ls.getD k [] = q' := by rw [← e1, g1]; rfl
      rw [g3] at hne ⊢
      have := at_len q' a e.2 g2
      exact ⟨e.2, g2, by omega, sub_gt g2 hne, at_fit g2 hfa⟩
    have hirr := gt_irrefl a
    have hasy := gt_asymm a b
    have htrn := gt_trans a b d
    obtain ⟨kaa, eaa⟩ := (KGreater_spec a a hfa hfa).rounds
    obtain ⟨kab, eab⟩ := (KGreater_spec a b hfa hfb).rounds
    obtain ⟨kba, eba⟩ := (KGreater_spec b a hfb hfa).rounds
    obtain ⟨kbd, ebd⟩ := (KGreater_spec b d hfb hfd).rounds
    obtain ⟨kad, ead⟩ := (KGreater_spec a d hfa hfd).rounds
    rw [hirr] at eaa
    obtain ⟨vab, hvab⟩ : ∃ x, x = gtT a b := ⟨_, rfl⟩
    obtain ⟨vba, hvba⟩ : ∃ x, x = gtT b a := ⟨_, rfl⟩
    obtain ⟨vbd, hvbd⟩ : ∃ x, x = gtT b d := ⟨_, rfl⟩
    obtain ⟨vad, hvad⟩ : ∃ x, x = gtT a d := ⟨_, rfl⟩
    rw [← hvab] at eab hasy htrn
    rw [← hvba] at eba hasy
    rw [← hvbd] at ebd htrn
    rw [← hvad] at ead htrn
    have FG := Aside0.mk (And.intro eaa (And.intro eab (And.intro eba (And.intro ebd ead))))
    have FH := Aside0.mk (And.intro hasy htrn)
    have FP := Aside0.mk (And.intro hpl hls)
    have FO := Aside0.mk (And.intro hfa hall)
    have k00 : w3.cell? ⟨h0, 0, none⟩ = some (.int .i64 a.f0) := (blk_cell HX0.out 0).trans rfl
    have k01 : w3.cell? ⟨h0, 1, none⟩ = some (.slice X0 a.f1.length q0) := (blk_cell HX0.out 1).trans rfl
    have k10 : w3.cell? ⟨h1, 0, none⟩ = some (.int .i64 b.f0) := (blk_cell HX1.out 0).trans rfl
    have k11 : w3.cell? ⟨h1, 1, none⟩ = some (.slice X1 b.f1.length q1) := (blk_cell HX1.out 1).trans rfl
    clear hfa hfb hfd hpl hls hll hall hirr hasy htrn eaa eab eba ebd ead hvab hvba hvbd hvad hoka hokb hokd hok hna hnb hnd hbA hbB hbD hC0 hC1 hC2 hx0' hx1' hx2' hb3 hg0 hg1 hg2 hh0 hh1 hh2 hx0 hx1 hy0 hy1 hz0 hz1 hB1 hB2 hb1 hb2 hF hge0 hge1 hge2
    simp only [List.setIfInBounds_toArray, List.set_cons_zero, List.set_cons_succ]
    cases vab with
    | false =>
      go_wp2_with (first | (go_at_call 23; refine (term_Places.calls _ _ _ a.f1 ls u3 (Kd.C_below HC0.out HU3.out) hq0 FP.out.1).mono ?_; rintro e w5 ⟨v0, rfl, hR, hb5⟩; obtain ⟨Al, cl, hv0⟩ := Kd.R_slice hR; subst hv0; have HCL := Aside0.mk (Kd.R_reads' hR).2.2; have HB5 := Aside0.mk (HU3.out.trans (hb5.mono HU3.out.size)); clear hR hb5) | (go_at_call 41; refine (kbo_Greater.calls kab _ _ _ a.f1 _ _ _ b.f1 false u2 (Kd.C_below HC0.out HU2.out) hq0 (Kd.C_below HC1.out HU2.out) hq1 FG.out.2.1).mono ?_; rintro e u3 ⟨rfl, hb⟩; have HU3 := Aside0.mk (show Below w3.heap.size w3 u3 from HU2.out.trans (hb.mono HU2.out.size)); clear hb; have u3c00 : u3.cell? ⟨h0, 0, none⟩ = some (.int .i64 a.f0) := (blk_cell (blk_below HX0.out HU3.out) 0).trans rfl; have u3c01 : u3.cell? ⟨h0, 1, none⟩ = some (.slice X0 a.f1.length q0) := (blk_cell (blk_below HX0.out HU3.out) 1).trans rfl; have u3c10 : u3.cell? ⟨h1, 0, none⟩ = some (.int .i64 b.f0) := (blk_cell (blk_below HX1.out HU3.out) 0).trans rfl; have u3c11 : u3.cell? ⟨h1, 1, none⟩ = some (.slice X1 b.f1.length q1) := (blk_cell (blk_below HX1.out HU3.out) 1).trans rfl; have u3c20 : u3.cell? ⟨h2, 0, none⟩ = some (.int .i64 d.f0) := (blk_cell (blk_below HX2.out HU3.out) 0).trans rfl; have u3c21 : u3.cell? ⟨h2, 1, none⟩ = some (.slice X2 d.f1.length q2) := (blk_cell (blk_below HX2.out HU3.out) 1).trans rfl) | (go_at_call 41; refine (kbo_Greater.calls kab _ _ _ a.f1 _ _ _ b.f1 false u1 (Kd.C_below HC0.out HU1.out) hq0 (Kd.C_below HC1.out HU1.out) hq1 FG.out.2.1).mono ?_; rintro e u2 ⟨rfl, hb⟩; have HU2 := Aside0.mk (show Below w3.heap.size w3 u2 from HU1.out.trans (hb.mono HU1.out.size)); clear hb; have u2c00 : u2.cell? ⟨h0, 0, none⟩ = some (.int .i64 a.f0) := (blk_cell (blk_below HX0.out HU2.out) 0).trans rfl; have u2c01 : u2.cell? ⟨h0, 1, none⟩ = some (.slice X0 a.f1.length q0) := (blk_cell (blk_below HX0.out HU2.out) 1).trans rfl; have u2c10 : u2.cell? ⟨h1, 0, none⟩ = some (.int .i64 b.f0) := (blk_cell (blk_below HX1.out HU2.out) 0).trans rfl; have u2c11 : u2.cell? ⟨h1, 1, none⟩ = some (.slice X1 b.f1.length q1) := (blk_cell (blk_below HX1.out HU2.out) 1).trans rfl; have u2c20 : u2.cell? ⟨h2, 0, none⟩ = some (.int .i64 d.f0) := (blk_cell (blk_below HX2.out HU2.out) 0).trans rfl; have u2c21 : u2.cell? ⟨h2, 1, none⟩ = some (.slice X2 d.f1.length q2) := (blk_cell (blk_below HX2.out HU2.out) 1).trans rfl) | (go_at_call 41; refine (kbo_Greater.calls kaa _ _ _ a.f1 _ _ _ a.f1 false w3 HC0.out hq0 HC0.out hq0 FG.out.1).mono ?_; rintro e u1 ⟨rfl, hb⟩; have HU1 := Aside0.mk (show Below w3.heap.size w3 u1 from hb); clear hb; have u1c00 : u1.cell? ⟨h0, 0, none⟩ = some (.int .i64 a.f0) := (blk_cell (blk_below HX0.out HU1.out) 0).trans rfl; have u1c01 : u1.cell? ⟨h0, 1, none⟩ = some (.slice X0 a.f1.length q0) := (blk_cell (blk_below HX0.out HU1.out) 1).trans rfl; have u1c10 : u1.cell? ⟨h1, 0, none⟩ = some (.int .i64 b.f0) := (blk_cell (blk_below HX1.out HU1.out) 0).trans rfl; have u1c11 : u1.cell? ⟨h1, 1, none⟩ = some (.slice X1 b.f1.length q1) := (blk_cell (blk_below HX1.out HU1.out) 1).trans rfl; have u1c20 : u1.cell? ⟨h2, 0, none⟩ = some (.int .i64 d.f0) := (blk_cell (blk_below HX2.out HU1.out) 0).trans rfl; have u1c21 : u1.cell? ⟨h2, 1, none⟩ = some (.slice X2 d.f1.length q2) := (blk_cell (blk_below HX2.out HU1.out) 1).trans rfl))
      have HW0 := Aside0.mk (HB3.out.trans (HB5.out.mono HB3.out.size))
      have HD0 := Aside0.mk (Kd.C_below HC0.out HB5.out)
      have HY0 := Aside0.mk (blk_below HX0.out HB5.out)
      clear FG FH HC0 HC1 HC2 HX0 HX1 HX2 HU1 HU2 HU3
      go_loopw [11] (fun i wr => ∃ k : Nat, 1 ≤ k ∧ k ≤ ls.length ∧ i = .int .i64 k ∧ Aside0 (Below w5.heap.size w5 wr)) (fun i wr => ls.length - (intOf i).toNat)
      case atStart => exact ⟨1, Nat.le_refl _, hlp, rfl, ⟨Below.refl _ _⟩⟩
      case round =>
        obtain ⟨k, hk1, hk, rfl, hb⟩ := hrel
        by_cases hlt : k < ls.length
        · obtain ⟨s1, hs1, hq60, hg1, hf1⟩ := FO.out.2 k hk1 hlt
          obtain ⟨ad, cc, hAl, hcc0, hK, hcc⟩ := ReadsRow.get_ (Kd.C_below HCL.out hb.out) [] (k : Int) (by omega) (by omega)
          subst hAl
          obtain ⟨Ak, ck, hce, hlk, hCk⟩ := hK
          subst hce
          rw [Int.toNat_natCast] at hcc hlk hCk
          obtain ⟨q', hq'⟩ : ∃ q', q' = ls.getD k [] := ⟨_, rfl⟩
          rw [← hq'] at hs1 hq60 hcc hlk hCk
          have hcell : wr.cell? (ad.add k) = some (.slice Ak q'.length ck) := by
            have h9 := hcc 0 _ rfl
            rw [show (Kd.slice 3 (Kd.int .i64)).sz = 1 from rfl, Nat.mul_one, Nat.add_zero] at h9
            exact h9
          obtain ⟨ka1, ea1⟩ := (At_spec q' [] a FO.out.1 (by simp; omega)).rounds
          rw [hs1] at ea1
          obtain ⟨kg, eg⟩ := (KGreater_spec a s1 FO.out.1 hf1).rounds
          rw [hg1] at eg
          have EA := Aside0.mk (And.intro (show term_At.f ka1 a.f0 a.f1 q' = some (s1.f0, s1.f1, true) from ea1) eg)
          have hCK := Aside0.mk hCk
          have hLk := Aside0.mk hlk
          have HCELL := Aside0.mk hcell
          clear hcc hcc0 hCk hlk hs1 hq60 hq' hg1 hf1 ea1 eg hcell
          go_wp2
          refine KboRules_r12 (i := (k : Int)) (ga := h0) (m := ls.length) (r := s1) (b := true) (ad := ad) (Aq := Ak) (lq := q'.length) (cq := ck) (by kernel_rfl) rfl rfl rfl (blk_below HY0.out hb.out) ⟨by omega, by omega⟩ (by rw [Int.toNat_natCast]; exact HCELL.out) ?_ ?_
          · intro w1 hb1
            refine (term_At.calls ka1 a.f0 (fun k => k < wr.heap.size) X0 q0 a.f1 Ak ck q' s1.f0 s1.f1 true w1 (Kd.V_mk hq0 (F_old k30_heap (Kd.C_below HD0.out hb.out) hb1)) (Kd.C_below hCK.out hb1) hLk.out EA.out.1).mono ?_
            rintro e w2 ⟨v1, rfl, hV, hb2⟩
            obtain ⟨A', c', hv1, hl, hF⟩ := hV
            subst hv1
            exact ⟨A', c', rfl, hl, hF, hb2⟩
          intro v w14 g1 A1 c1 hb14 hv11 hv9 hg1 hbx1 hl1 hF1
          simp only [layL, Nat.reduceAdd, List.setIfInBounds_toArray, List.set_cons_zero, List.set_cons_succ, hv11, hv9]
          clear hv11 hv9
          generalize v 0 = va0
          generalize v 1 = va1
          generalize v 2 = va2
          generalize v 3 = va3
          generalize v 4 = va4
          generalize v 5 = va5
          generalize v 6 = va6
          generalize v 7 = va7
          generalize v 8 = va8
          clear v
          have hy := blk_below (blk_below HY0.out hb.out) hb14
          have m0 : w14.cell? ⟨g1, 0, none⟩ = some (.int .i64 s1.f0) := (blk_cell hbx1 0).trans rfl
          have m1 : w14.cell? ⟨g1, 1, none⟩ = some (.slice A1 s1.f1.length c1) := (blk_cell hbx1 1).trans rfl
          have m2 : w14.cell? ⟨h0, 0, none⟩ = some (.int .i64 a.f0) := (blk_cell hy 0).trans rfl
          have m3 : w14.cell? ⟨h0, 1, none⟩ = some (.slice X0 a.f1.length q0) := (blk_cell hy 1).trans rfl
          have HBW := Aside0.mk (hb.out.trans (hb14.mono hb.out.size))
          have HF1 := Aside0.mk (Kd.F_now hF1)
          have HL1 := Aside0.mk hl1
          clear hy hF1 hl1 hb14
          go_wp2_with (go_at_call 41; refine (kbo_Greater.calls kg _ _ _ a.f1 _ _ _ s1.f1 true w14 (Kd.C_below HD0.out HBW.out) hq0 HF1.out HL1.out EA.out.2).mono ?_; rintro e w15 ⟨rfl, hb15⟩; have HB15 := Aside0.mk hb15; clear hb15)
          go_roundw
          case rel => exact ⟨k + 1, by omega, by omega, by go_num, ⟨HBW.out.trans (HB15.out.mono HBW.out.size)⟩⟩
          case measure => simp [intOf]; omega
        · have hke : k = ls.length := by omega
          go_wp2
          go_ret
          exact ⟨rfl, HW0.out.trans (hb.out.mono HW0.out.size)⟩
    | true =>
      have hba := FH.out.1 rfl
      subst hba
      cases vbd with
      | false =>
        go_wp2_with (first | (go_at_call 23; refine (term_Places.calls _ _ _ a.f1 ls u5 (Kd.C_below HC0.out HU5.out) hq0 FP.out.1).mono ?_; rintro e w5 ⟨v0, rfl, hR, hb5⟩; obtain ⟨Al, cl, hv0⟩ := Kd.R_slice hR; subst hv0; have HCL := Aside0.mk (Kd.R_reads' hR).2.2; have HB5 := Aside0.mk (HU5.out.trans (hb5.mono HU5.out.size)); clear hR hb5) | (go_at_call 41; refine (kbo_Greater.calls kbd _ _ _ b.f1 _ _ _ d.f1 false u4 (Kd.C_below HC1.out HU4.out) hq1 (Kd.C_below HC2.out HU4.out) hq2 FG.out.2.2.2.1).mono ?_; rintro e u5 ⟨rfl, hb⟩; have HU5 := Aside0.mk (show Below w3.heap.size w3 u5 from HU4.out.trans (hb.mono HU4.out.size)); clear hb; have u5c00 : u5.cell? ⟨h0, 0, none⟩ = some (.int .i64 a.f0) := (blk_cell (blk_below HX0.out HU5.out) 0).trans rfl; have u5c01 : u5.cell? ⟨h0, 1, none⟩ = some (.slice X0 a.f1.length q0) := (blk_cell (blk_below HX0.out HU5.out) 1).trans rfl; have u5c10 : u5.cell? ⟨h1, 0, none⟩ = some (.int .i64 b.f0) := (blk_cell (blk_below HX1.out HU5.out) 0).trans rfl; have u5c11 : u5.cell? ⟨h1, 1, none⟩ = some (.slice X1 b.f1.length q1) := (blk_cell (blk_below HX1.out HU5.out) 1).trans rfl; have u5c20 : u5.cell? ⟨h2, 0, none⟩ = some (.int .i64 d.f0) := (blk_cell (blk_below HX2.out HU5.out) 0).trans rfl; have u5c21 : u5.cell? ⟨h2, 1, none⟩ = some (.slice X2 d.f1.length q2) := (blk_cell (blk_below HX2.out HU5.out) 1).trans rfl) | (go_at_call 41; refine (kbo_Greater.calls kab _ _ _ a.f1 _ _ _ b.f1 true u3 (Kd.C_below HC0.out HU3.out) hq0 (Kd.C_below HC1.out HU3.out) hq1 FG.out.2.1).mono ?_; rintro e u4 ⟨rfl, hb⟩; have HU4 := Aside0.mk (show Below w3.heap.size w3 u4 from HU3.out.trans (hb.mono HU3.out.size)); clear hb; have u4c00 : u4.cell? ⟨h0, 0, none⟩ = some (.int .i64 a.f0) := (blk_cell (blk_below HX0.out HU4.out) 0).trans rfl; have u4c01 : u4.cell? ⟨h0, 1, none⟩ = some (.slice X0 a.f1.length q0) := (blk_cell (blk_below HX0.out HU4.out) 1).trans rfl; have u4c10 : u4.cell? ⟨h1, 0, none⟩ = some (.int .i64 b.f0) := (blk_cell (blk_below HX1.out HU4.out) 0).trans rfl; have u4c11 : u4.cell? ⟨h1, 1, none⟩ = some (.slice X1 b.f1.length q1) := (blk_cell (blk_below HX1.out HU4.out) 1).trans rfl; have u4c20 : u4.cell? ⟨h2, 0, none⟩ = some (.int .i64 d.f0) := (blk_cell (blk_below HX2.out HU4.out) 0).trans rfl; have u4c21 : u4.cell? ⟨h2, 1, none⟩ = some (.slice X2 d.f1.length q2) := (blk_cell (blk_below HX2.out HU4.out) 1).trans rfl) | (go_at_call 41; refine (kbo_Greater.calls kba _ _ _ b.f1 _ _ _ a.f1 false u2 (Kd.C_below HC1.out HU2.out) hq1 (Kd.C_below HC0.out HU2.out) hq0 FG.out.2.2.1).mono ?_; rintro e u3 ⟨rfl, hb⟩; have HU3 := Aside0.mk (show Below w3.heap.size w3 u3 from HU2.out.trans (hb.mono HU2.out.size)); clear hb; have u3c00 : u3.cell? ⟨h0, 0, none⟩ = some (.int .i64 a.f0) := (blk_cell (blk_below HX0.out HU3.out) 0).trans rfl; have u3c01 : u3.cell? ⟨h0, 1, none⟩ = some (.slice X0 a.f1.length q0) := (blk_cell (blk_below HX0.out HU3.out) 1).trans rfl; have u3c10 : u3.cell? ⟨h1, 0, none⟩ = some (.int .i64 b.f0) := (blk_cell (blk_below HX1.out HU3.out) 0).trans rfl; have u3c11 : u3.cell? ⟨h1, 1, none⟩ = some (.slice X1 b.f1.length q1) := (blk_cell (blk_below HX1.out HU3.out) 1).trans rfl; have u3c20 : u3.cell? ⟨h2, 0, none⟩ = some (.int .i64 d.f0) := (blk_cell (blk_below HX2.out HU3.out) 0).trans rfl; have u3c21 : u3.cell? ⟨h2, 1, none⟩ = some (.slice X2 d.f1.length q2) := (blk_cell (blk_below HX2.out HU3.out) 1).trans rfl) | (go_at_call 41; refine (kbo_Greater.calls kab _ _ _ a.f1 _ _ _ b.f1 true u1 (Kd.C_below HC0.out HU1.out) hq0 (Kd.C_below HC1.out HU1.out) hq1 FG.out.2.1).mono ?_; rintro e u2 ⟨rfl, hb⟩; have HU2 := Aside0.mk (show Below w3.heap.size w3 u2 from HU1.out.trans (hb.mono HU1.out.size)); clear hb; have u2c00 : u2.cell? ⟨h0, 0, none⟩ = some (.int .i64 a.f0) := (blk_cell (blk_below HX0.out HU2.out) 0).trans rfl; have u2c01 : u2.cell? ⟨h0, 1, none⟩ = some (.slice X0 a.f1.length q0) := (blk_cell (blk_below HX0.out HU2.out) 1).trans rfl; have u2c10 : u2.cell? ⟨h1, 0, none⟩ = some (.int .i64 b.f0) := (blk_cell (blk_below HX1.out HU2.out) 0).trans rfl; have u2c11 : u2.cell? ⟨h1, 1, none⟩ = some (.slice X1 b.f1.length q1) := (blk_cell (blk_below HX1.out HU2.out) 1).trans rfl; have u2c20 : u2.cell? ⟨h2, 0, none⟩ = some (.int .i64 d.f0) := (blk_cell (blk_below HX2.out HU2.out) 0).trans rfl; have u2c21 : u2.cell? ⟨h2, 1, none⟩ = some (.slice X2 d.f1.length q2) := (blk_cell (blk_below HX2.out HU2.out) 1).trans rfl) | (go_at_call 41; refine (kbo_Greater.calls kaa _ _ _ a.f1 _ _ _ a.f1 false w3 HC0.out hq0 HC0.out hq0 FG.out.1).mono ?_; rintro e u1 ⟨rfl, hb⟩; have HU1 := Aside0.mk (show Below w3.heap.size w3 u1 from hb); clear hb; have u1c00 : u1.cell? ⟨h0, 0, none⟩ = some (.int .i64 a.f0) := (blk_cell (blk_below HX0.out HU1.out) 0).trans rfl; have u1c01 : u1.cell? ⟨h0, 1, none⟩ = some (.slice X0 a.f1.length q0) := (blk_cell (blk_below HX0.out HU1.out) 1).trans rfl; have u1c10 : u1.cell? ⟨h1, 0, none⟩ = some (.int .i64 b.f0) := (blk_cell (blk_below HX1.out HU1.out) 0).trans rfl; have u1c11 : u1.cell? ⟨h1, 1, none⟩ = some (.slice X1 b.f1.length q1) := (blk_cell (blk_below HX1.out HU1.out) 1).trans rfl; have u1c20 : u1.cell? ⟨h2, 0, none⟩ = some (.int .i64 d.f0) := (blk_cell (blk_below HX2.out HU1.out) 0).trans rfl; have u1c21 : u1.cell? ⟨h2, 1, none⟩ = some (.slice X2 d.f1.length q2) := (blk_cell (blk_below HX2.out HU1.out) 1).trans rfl))
        have HW0 := Aside0.mk (HB3.out.trans (HB5.out.mono HB3.out.size))
        have HD0 := Aside0.mk (Kd.C_below HC0.out HB5.out)
        have HY0 := Aside0.mk (blk_below HX0.out HB5.out)
        clear FG FH HC0 HC1 HC2 HX0 HX1 HX2 HU1 HU2 HU3 HU4 HU5
        go_loopw [11] (fun i wr => ∃ k : Nat, 1 ≤ k ∧ k ≤ ls.length ∧ i = .int .i64 k ∧ Aside0 (Below w5.heap.size w5 wr)) (fun i wr => ls.length - (intOf i).toNat)
        case atStart => exact ⟨1, Nat.le_refl _, hlp, rfl, ⟨Below.refl _ _⟩⟩
        case round =>
          obtain ⟨k, hk1, hk, rfl, hb⟩ := hrel
          by_cases hlt : k < ls.length
          · obtain ⟨s1, hs1, hq60, hg1, hf1⟩ := FO.out.2 k hk1 hlt
            obtain ⟨ad, cc, hAl, hcc0, hK, hcc⟩ := ReadsRow.get_ (Kd.C_below HCL.out hb.out) [] (k : Int) (by omega) (by omega)
            subst hAl
            obtain ⟨Ak, ck, hce, hlk, hCk⟩ := hK
            subst hce
            rw [Int.toNat_natCast] at hcc hlk hCk
            obtain ⟨q', hq'⟩ : ∃ q', q' = ls.getD k [] := ⟨_, rfl⟩
            rw [← hq'] at hs1 hq60 hcc hlk hCk
            have hcell : wr.cell? (ad.add k) = some (.slice Ak q'.length ck) := by
              have h9 := hcc 0 _ rfl
              rw [show (Kd.slice 3 (Kd.int .i64)).sz = 1 from rfl, Nat.mul_one, Nat.add_zero] at h9
              exact h9
            obtain ⟨ka1, ea1⟩ := (At_spec q' [] a FO.out.1 (by simp; omega)).rounds
            rw [hs1] at ea1
            obtain ⟨kg, eg⟩ := (KGreater_spec a s1 FO.out.1 hf1).rounds
            rw [hg1] at eg
            have EA := Aside0.mk (And.intro (show term_At.f ka1 a.f0 a.f1 q' = some (s1.f0, s1.f1, true) from ea1) eg)
            have hCK := Aside0.mk hCk
            have hLk := Aside0.mk hlk
            have HCELL := Aside0.mk hcell
            clear hcc hcc0 hCk hlk hs1 hq60 hq' hg1 hf1 ea1 eg hcell
            go_wp2
            refine KboRules_r12 (i := (k : Int)) (ga := h0) (m := ls.length) (r := s1) (b := true) (ad := ad) (Aq := Ak) (lq := q'.length) (cq := ck) (by kernel_rfl) rfl rfl rfl (blk_below HY0.out hb.out) ⟨by omega, by omega⟩ (by rw [Int.toNat_natCast]; exact HCELL.out) ?_ ?_
            · intro w1 hb1
              refine (term_At.calls ka1 a.f0 (fun k => k < wr.heap.size) X0 q0 a.f1 Ak ck q' s1.f0 s1.f1 true w1 (Kd.V_mk hq0 (F_old k30_heap (Kd.C_below HD0.out hb.out) hb1)) (Kd.C_below hCK.out hb1) hLk.out EA.out.1).mono ?_
              rintro e w2 ⟨v1, rfl, hV, hb2⟩
              obtain ⟨A', c', hv1, hl, hF⟩ := hV
              subst hv1
              exact ⟨A', c', rfl, hl, hF, hb2⟩
            intro v w14 g1 A1 c1 hb14 hv11 hv9 hg1 hbx1 hl1 hF1
            simp only [layL, Nat.reduceAdd, List.setIfInBounds_toArray, List.set_cons_zero, List.set_cons_succ, hv11, hv9]
            clear hv11 hv9
            generalize v 0 = va0
            generalize v 1 = va1
            generalize v 2 = va2
            generalize v 3 = va3
            generalize v 4 = va4
            generalize v 5 = va5
            generalize v 6 = va6
            generalize v 7 = va7
            generalize v 8 = va8
            clear v
            have hy := blk_below (blk_below HY0.out hb.out) hb14
            have m0 : w14.cell? ⟨g1, 0, none⟩ = some (.int .i64 s1.f0) := (blk_cell hbx1 0).trans rfl
            have m1 : w14.cell? ⟨g1, 1, none⟩ = some (.slice A1 s1.f1.length c1) := (blk_cell hbx1 1).trans rfl
            have m2 : w14.cell? ⟨h0, 0, none⟩ = some (.int .i64 a.f0) := (blk_cell hy 0).trans rfl
            have m3 : w14.cell? ⟨h0, 1, none⟩ = some (.slice X0 a.f1.length q0) := (blk_cell hy 1).trans rfl
            have HBW := Aside0.mk (hb.out.trans (hb14.mono hb.out.size))
            have HF1 := Aside0.mk (Kd.F_now hF1)
            have HL1 := Aside0.mk hl1
            clear hy hF1 hl1 hb14
            go_wp2_with (go_at_call 41; refine (kbo_Greater.calls kg _ _ _ a.f1 _ _ _ s1.f1 true w14 (Kd.C_below HD0.out HBW.out) hq0 HF1.out HL1.out EA.out.2).mono ?_; rintro e w15 ⟨rfl, hb15⟩; have HB15 := Aside0.mk hb15; clear hb15)
            go_roundw
            case rel => exact ⟨k + 1, by omega, by omega, by go_num, ⟨HBW.out.trans (HB15.out.mono HBW.out.size)⟩⟩
            case measure => simp [intOf]; omega
          · have hke : k = ls.length := by omega
            go_wp2
            go_ret
            exact ⟨rfl, HW0.out.trans (hb.out.mono HW0.out.size)⟩
      | true =>
        have had := FH.out.2 rfl rfl
        subst had
        go_wp2_with (first | (go_at_call 23; refine (term_Places.calls _ _ _ a.f1 ls u6 (Kd.C_below HC0.out HU6.out) hq0 FP.out.1).mono ?_; rintro e w5 ⟨v0, rfl, hR, hb5⟩; obtain ⟨Al, cl, hv0⟩ := Kd.R_slice hR; subst hv0; have HCL := Aside0.mk (Kd.R_reads' hR).2.2; have HB5 := Aside0.mk (HU6.out.trans (hb5.mono HU6.out.size)); clear hR hb5) | (go_at_call 41; refine (kbo_Greater.calls kad _ _ _ a.f1 _ _ _ d.f1 true u5 (Kd.C_below HC0.out HU5.out) hq0 (Kd.C_below HC2.out HU5.out) hq2 FG.out.2.2.2.2).mono ?_; rintro e u6 ⟨rfl, hb⟩; have HU6 := Aside0.mk (show Below w3.heap.size w3 u6 from HU5.out.trans (hb.mono HU5.out.size)); clear hb; have u6c00 : u6.cell? ⟨h0, 0, none⟩ = some (.int .i64 a.f0) := (blk_cell (blk_below HX0.out HU6.out) 0).trans rfl; have u6c01 : u6.cell? ⟨h0, 1, none⟩ = some (.slice X0 a.f1.length q0) := (blk_cell (blk_below HX0.out HU6.out) 1).trans rfl; have u6c10 : u6.cell? ⟨h1, 0, none⟩ = some (.int .i64 b.f0) := (blk_cell (blk_below HX1.out HU6.out) 0).trans rfl; have u6c11 : u6.cell? ⟨h1, 1, none⟩ = some (.slice X1 b.f1.length q1) := (blk_cell (blk_below HX1.out HU6.out) 1).trans rfl; have u6c20 : u6.cell? ⟨h2, 0, none⟩ = some (.int .i64 d.f0) := (blk_cell (blk_below HX2.out HU6.out) 0).trans rfl; have u6c21 : u6.cell? ⟨h2, 1, none⟩ = some (.slice X2 d.f1.length q2) := (blk_cell (blk_below HX2.out HU6.out) 1).trans rfl) | (go_at_call 41; refine (kbo_Greater.calls kbd _ _ _ b.f1 _ _ _ d.f1 true u4 (Kd.C_below HC1.out HU4.out) hq1 (Kd.C_below HC2.out HU4.out) hq2 FG.out.2.2.2.1).mono ?_; rintro e u5 ⟨rfl, hb⟩; have HU5 := Aside0.mk (show Below w3.heap.size w3 u5 from HU4.out.trans (hb.mono HU4.out.size)); clear hb; have u5c00 : u5.cell? ⟨h0, 0, none⟩ = some (.int .i64 a.f0) := (blk_cell (blk_below HX0.out HU5.out) 0).trans rfl; have u5c01 : u5.cell? ⟨h0, 1, none⟩ = some (.slice X0 a.f1.length q0) := (blk_cell (blk_below HX0.out HU5.out) 1).trans rfl; have u5c10 : u5.cell? ⟨h1, 0, none⟩ = some (.int .i64 b.f0) := (blk_cell (blk_below HX1.out HU5.out) 0).trans rfl; have u5c11 : u5.cell? ⟨h1, 1, none⟩ = some (.slice X1 b.f1.length q1) := (blk_cell (blk_below HX1.out HU5.out) 1).trans rfl; have u5c20 : u5.cell? ⟨h2, 0, none⟩ = some (.int .i64 d.f0) := (blk_cell (blk_below HX2.out HU5.out) 0).trans rfl; have u5c21 : u5.cell? ⟨h2, 1, none⟩ = some (.slice X2 d.f1.length q2) := (blk_cell (blk_below HX2.out HU5.out) 1).trans rfl) | (go_at_call 41; refine (kbo_Greater.calls kab _ _ _ a.f1 _ _ _ b.f1 true u3 (Kd.C_below HC0.out HU3.out) hq0 (Kd.C_below HC1.out HU3.out) hq1 FG.out.2.1).mono ?_; rintro e u4 ⟨rfl, hb⟩; have HU4 := Aside0.mk (show Below w3.heap.size w3 u4 from HU3.out.trans (hb.mono HU3.out.size)); clear hb; have u4c00 : u4.cell? ⟨h0, 0, none⟩ = some (.int .i64 a.f0) := (blk_cell (blk_below HX0.out HU4.out) 0).trans rfl; have u4c01 : u4.cell? ⟨h0, 1, none⟩ = some (.slice X0 a.f1.length q0) := (blk_cell (blk_below HX0.out HU4.out) 1).trans rfl; have u4c10 : u4.cell? ⟨h1, 0, none⟩ = some (.int .i64 b.f0) := (blk_cell (blk_below HX1.out HU4.out) 0).trans rfl; have u4c11 : u4.cell? ⟨h1, 1, none⟩ = some (.slice X1 b.f1.length q1) := (blk_cell (blk_below HX1.out HU4.out) 1).trans rfl; have u4c20 : u4.cell? ⟨h2, 0, none⟩ = some (.int .i64 d.f0) := (blk_cell (blk_below HX2.out HU4.out) 0).trans rfl; have u4c21 : u4.cell? ⟨h2, 1, none⟩ = some (.slice X2 d.f1.length q2) := (blk_cell (blk_below HX2.out HU4.out) 1).trans rfl) | (go_at_call 41; refine (kbo_Greater.calls kba _ _ _ b.f1 _ _ _ a.f1 false u2 (Kd.C_below HC1.out HU2.out) hq1 (Kd.C_below HC0.out HU2.out) hq0 FG.out.2.2.1).mono ?_; rintro e u3 ⟨rfl, hb⟩; have HU3 := Aside0.mk (show Below w3.heap.size w3 u3 from HU2.out.trans (hb.mono HU2.out.size)); clear hb; have u3c00 : u3.cell? ⟨h0, 0, none⟩ = some (.int .i64 a.f0) := (blk_cell (blk_below HX0.out HU3.out) 0).trans rfl; have u3c01 : u3.cell? ⟨h0, 1, none⟩ = some (.slice X0 a.f1.length q0) := (blk_cell (blk_below HX0.out HU3.out) 1).trans rfl; have u3c10 : u3.cell? ⟨h1, 0, none⟩ = some (.int .i64 b.f0) := (blk_cell (blk_below HX1.out HU3.out) 0).trans rfl; have u3c11 : u3.cell? ⟨h1, 1, none⟩ = some (.slice X1 b.f1.length q1) := (blk_cell (blk_below HX1.out HU3.out) 1).trans rfl; have u3c20 : u3.cell? ⟨h2, 0, none⟩ = some (.int .i64 d.f0) := (blk_cell (blk_below HX2.out HU3.out) 0).trans rfl; have u3c21 : u3.cell? ⟨h2, 1, none⟩ = some (.slice X2 d.f1.length q2) := (blk_cell (blk_below HX2.out HU3.out) 1).trans rfl) | (go_at_call 41; refine (kbo_Greater.calls kab _ _ _ a.f1 _ _ _ b.f1 true u1 (Kd.C_below HC0.out HU1.out) hq0 (Kd.C_below HC1.out HU1.out) hq1 FG.out.2.1).mono ?_; rintro e u2 ⟨rfl, hb⟩; have HU2 := Aside0.mk (show Below w3.heap.size w3 u2 from HU1.out.trans (hb.mono HU1.out.size)); clear hb; have u2c00 : u2.cell? ⟨h0, 0, none⟩ = some (.int .i64 a.f0) := (blk_cell (blk_below HX0.out HU2.out) 0).trans rfl; have u2c01 : u2.cell? ⟨h0, 1, none⟩ = some (.slice X0 a.f1.length q0) := (blk_cell (blk_below HX0.out HU2.out) 1).trans rfl; have u2c10 : u2.cell? ⟨h1, 0, none⟩ = some (.int .i64 b.f0) := (blk_cell (blk_below HX1.out HU2.out) 0).trans rfl; have u2c11 : u2.cell? ⟨h1, 1, none⟩ = some (.slice X1 b.f1.length q1) := (blk_cell (blk_below HX1.out HU2.out) 1).trans rfl; have u2c20 : u2.cell? ⟨h2, 0, none⟩ = some (.int .i64 d.f0) := (blk_cell (blk_below HX2.out HU2.out) 0).trans rfl; have u2c21 : u2.cell? ⟨h2, 1, none⟩ = some (.slice X2 d.f1.length q2) := (blk_cell (blk_below HX2.out HU2.out) 1).trans rfl) | (go_at_call 41; refine (kbo_Greater.calls kaa _ _ _ a.f1 _ _ _ a.f1 false w3 HC0.out hq0 HC0.out hq0 FG.out.1).mono ?_; rintro e u1 ⟨rfl, hb⟩; have HU1 := Aside0.mk (show Below w3.heap.size w3 u1 from hb); clear hb; have u1c00 : u1.cell? ⟨h0, 0, none⟩ = some (.int .i64 a.f0) := (blk_cell (blk_below HX0.out HU1.out) 0).trans rfl; have u1c01 : u1.cell? ⟨h0, 1, none⟩ = some (.slice X0 a.f1.length q0) := (blk_cell (blk_below HX0.out HU1.out) 1).trans rfl; have u1c10 : u1.cell? ⟨h1, 0, none⟩ = some (.int .i64 b.f0) := (blk_cell (blk_below HX1.out HU1.out) 0).trans rfl; have u1c11 : u1.cell? ⟨h1, 1, none⟩ = some (.slice X1 b.f1.length q1) := (blk_cell (blk_below HX1.out HU1.out) 1).trans rfl; have u1c20 : u1.cell? ⟨h2, 0, none⟩ = some (.int .i64 d.f0) := (blk_cell (blk_below HX2.out HU1.out) 0).trans rfl; have u1c21 : u1.cell? ⟨h2, 1, none⟩ = some (.slice X2 d.f1.length q2) := (blk_cell (blk_below HX2.out HU1.out) 1).trans rfl))
        have HW0 := Aside0.mk (HB3.out.trans (HB5.out.mono HB3.out.size))
        have HD0 := Aside0.mk (Kd.C_below HC0.out HB5.out)
        have HY0 := Aside0.mk (blk_below HX0.out HB5.out)
        clear FG FH HC0 HC1 HC2 HX0 HX1 HX2 HU1 HU2 HU3 HU4 HU5 HU6
        go_loopw [11] (fun i wr => ∃ k : Nat, 1 ≤ k ∧ k ≤ ls.length ∧ i = .int .i64 k ∧ Aside0 (Below w5.heap.size w5 wr)) (fun i wr => ls.length - (intOf i).toNat)
        case atStart => exact ⟨1, Nat.le_refl _, hlp, rfl, ⟨Below.refl _ _⟩⟩
        case round =>
          obtain ⟨k, hk1, hk, rfl, hb⟩ := hrel
          by_cases hlt : k < ls.length
          · obtain ⟨s1, hs1, hq60, hg1, hf1⟩ := FO.out.2 k hk1 hlt
            obtain ⟨ad, cc, hAl, hcc0, hK, hcc⟩ := ReadsRow.get_ (Kd.C_below HCL.out hb.out) [] (k : Int) (by omega) (by omega)
            subst hAl
            obtain ⟨Ak, ck, hce, hlk, hCk⟩ := hK
            subst hce
            rw [Int.toNat_natCast] at hcc hlk hCk
            obtain ⟨q', hq'⟩ : ∃ q', q' = ls.getD k [] := ⟨_, rfl⟩
            rw [← hq'] at hs1 hq60 hcc hlk hCk
            have hcell : wr.cell? (ad.add k) = some (.slice Ak q'.length ck) := by
              have h9 := hcc 0 _ rfl
              rw [show (Kd.slice 3 (Kd.int .i64)).sz = 1 from rfl, Nat.mul_one, Nat.add_zero] at h9
              exact h9
            obtain ⟨ka1, ea1⟩ := (At_spec q' [] a FO.out.1 (by simp; omega)).rounds
            rw [hs1] at ea1
            obtain ⟨kg, eg⟩ := (KGreater_spec a s1 FO.out.1 hf1).rounds
            rw [hg1] at eg
            have EA := Aside0.mk (And.intro (show term_At.f ka1 a.f0 a.f1 q' = some (s1.f0, s1.f1, true) from ea1) eg)
            have hCK := Aside0.mk hCk
            have hLk := Aside0.mk hlk
            have HCELL := Aside0.mk hcell
            clear hcc hcc0 hCk hlk hs1 hq60 hq' hg1 hf1 ea1 eg hcell
            go_wp2
            refine KboRules_r12 (i := (k : Int)) (ga := h0) (m := ls.length) (r := s1) (b := true) (ad := ad) (Aq := Ak) (lq := q'.length) (cq := ck) (by kernel_rfl) rfl rfl rfl (blk_below HY0.out hb.out) ⟨by omega, by omega⟩ (by rw [Int.toNat_natCast]; exact HCELL.out) ?_ ?_
            · intro w1 hb1
              refine (term_At.calls ka1 a.f0 (fun k => k < wr.heap.size) X0 q0 a.f1 Ak ck q' s1.f0 s1.f1 true w1 (Kd.V_mk hq0 (F_old k30_heap (Kd.C_below HD0.out hb.out) hb1)) (Kd.C_below hCK.out hb1) hLk.out EA.out.1).mono ?_
              rintro e w2 ⟨v1, rfl, hV, hb2⟩
              obtain ⟨A', c', hv1, hl, hF⟩ := hV
              subst hv1
              exact ⟨A', c', rfl, hl, hF, hb2⟩
            intro v w14 g1 A1 c1 hb14 hv11 hv9 hg1 hbx1 hl1 hF1
            simp only [layL, Nat.reduceAdd, List.setIfInBounds_toArray, List.set_cons_zero, List.set_cons_succ, hv11, hv9]
            clear hv11 hv9
            generalize v 0 = va0
            generalize v 1 = va1
            generalize v 2 = va2
            generalize v 3 = va3
            generalize v 4 = va4
            generalize v 5 = va5
            generalize v 6 = va6
            generalize v 7 = va7
            generalize v 8 = va8
            clear v
            have hy := blk_below (blk_below HY0.out hb.out) hb14
            have m0 : w14.cell? ⟨g1, 0, none⟩ = some (.int .i64 s1.f0) := (blk_cell hbx1 0).trans rfl
            have m1 : w14.cell? ⟨g1, 1, none⟩ = some (.slice A1 s1.f1.length c1) := (blk_cell hbx1 1).trans rfl
            have m2 : w14.cell? ⟨h0, 0, none⟩ = some (.int .i64 a.f0) := (blk_cell hy 0).trans rfl
            have m3 : w14.cell? ⟨h0, 1, none⟩ = some (.slice X0 a.f1.length q0) := (blk_cell hy 1).trans rfl
            have HBW := Aside0.mk (hb.out.trans (hb14.mono hb.out.size))
            have HF1 := Aside0.mk (Kd.F_now hF1)
            have HL1 := Aside0.mk hl1
            clear hy hF1 hl1 hb14
            go_wp2_with (go_at_call 41; refine (kbo_Greater.calls kg _ _ _ a.f1 _ _ _ s1.f1 true w14 (Kd.C_below HD0.out HBW.out) hq0 HF1.out HL1.out EA.out.2).mono ?_; rintro e w15 ⟨rfl, hb15⟩; have HB15 := Aside0.mk hb15; clear hb15)
            go_roundw
            case rel => exact ⟨k + 1, by omega, by omega, by go_num, ⟨HBW.out.trans (HB15.out.mono HBW.out.size)⟩⟩
            case measure => simp [intOf]; omega
          · have hke : k = ls.length := by omega
            go_wp2
            go_ret
            exact ⟨rfl, HW0.out.trans (hb.out.mono HW0.out.size)⟩
end Go.Proofs.Ytpfddihcikiofaa.P
end

section
namespace Go.Proofs.Ytpfddihcikiofaa.kboRules
open Go.ChangeShapes Go.WideShapes Go.ChangeAt Go.RowKit
set_option linter.unusedVariables false
theorem own : ownKnob Try.prog.godebug = none := by kernel_rfl
theorem laidOut : laidOutB Try.prog = true := by kernel_rfl
set_option maxRecDepth 100000 in
theorem lifted (os : Os) (started : os.Started) (H : Type) (enc : TypeId × Value → H) :
    ReturnsInHanded {} Try.checked os 11 .any (Rows.kboRulesSpec.pre6 enc Try.prog Try.f11 Rows.kboRulesRow.domain false) (Rows.kboRulesSpec.post enc Try.prog Try.f11 false true false false) := by
  refine returnsInHanded_of_change_sized (C := Try.checked) own started (by kernel_rfl) Try.func11
    (ChangeSpec.witness6 (enc := enc) (C := Try.checked) false ⟨#[], #[.agg #[.int .i64 0, .slice none 0 0], .agg #[.int .i64 0, .slice none 0 0], .agg #[.int .i64 0, .slice none 0 0]], []⟩ 8 (by kernel_rfl) (by kernel_rfl) (by kernel_rfl) (by kernel_rfl)) ?_
  intro W base args ds gs before hval0 hW hcnd hsz0 _
  have hval : ∀ (j : Nat) t v, Try.f11.params[j]? = some t → args[j]? = some v → Value.okWide Try.prog W .any base t v := hval0
  have hW' := hW
  obtain ⟨p, q, hA0, hV, rfl, hfz, hnd⟩ := hW
  have hA : DataW.TrodAll enc Try.prog W 0 (fun _ => true) true Try.f11.params.toList args.toList ds p := hA0
  rw [Try.params11] at hA hval
  obtain ⟨v0, vs0, d0, ds0, p0, q0, hargs, rfl, rfl, h0, r0⟩ := trodAll_cons hA
  obtain ⟨v1, vs1, d1, ds1, p1, q1, rfl, rfl, rfl, h1, r1⟩ := trodAll_cons r0
  obtain ⟨v2, vs2, d2, ds2, p2, q2, rfl, rfl, rfl, h2, r2⟩ := trodAll_cons r1
  obtain ⟨rfl, rfl, rfl⟩ := trodAll_nil r2
  obtain rfl : args = #[v0, v1, v2] := by cases args; simp_all
  obtain ⟨rfl, rfl⟩ := trodVars_none hV
  have k0 := h0
  have lt0 : ∀ x ∈ p0, x.block < W.heap.size := by obtain ⟨m, hm⟩ := k0; exact DataW.trod_lt m _ _ _ hm
  obtain ⟨t0, A0, c0, rfl, hc0, hC0, hw0⟩ := P.open_T (hval 0 24 v0 rfl rfl) h0
  have k1 := h1
  have lt1 : ∀ x ∈ p1, x.block < W.heap.size := by obtain ⟨m, hm⟩ := k1; exact DataW.trod_lt m _ _ _ hm
  obtain ⟨t1, A1, c1, rfl, hc1, hC1, hw1⟩ := P.open_T (hval 1 24 v1 rfl rfl) h1
  have k2 := h2
  have lt2 : ∀ x ∈ p2, x.block < W.heap.size := by obtain ⟨m, hm⟩ := k2; exact DataW.trod_lt m _ _ _ hm
  obtain ⟨t2, A2, c2, rfl, hc2, hC2, hw2⟩ := P.open_T (hval 2 24 v2 rfl rfl) h2
  clear hA0 hval0 hsz0
  refine (P.KboRules_walk t0 t1 t2 A0 c0 A1 c1 A2 c2 W hC0 hc0 hC1 hc1 hC2 hc2).mono fun e W' ⟨he, bel⟩ => ?_
  subst he
  exact ⟨_, rfl, _, _, _, [], _, [], hW', trodAll_mk1 (shut_bool Try.underlying4 _), (trodAll_cons_mk (Below.trod laidOut (by kernel_rfl) (of_decide_eq_true (by kernel_rfl)) k0 bel lt0) (trodAll_cons_mk (Below.trod laidOut (by kernel_rfl) (of_decide_eq_true (by kernel_rfl)) k1 bel lt1) (trodAll_cons_mk (Below.trod laidOut (by kernel_rfl) (of_decide_eq_true (by kernel_rfl)) k2 bel lt2) trodAll_mk0))), rfl, bel.frame _, fun h => by cases h⟩
theorem over : Rows.kboRulesRow.holds Try.pinned (OpenSpec.ofChange Rows.kboRulesSpec) :=
  OpenClaim.holds_of_wide 11 Try.f11 rfl rfl rfl rfl rfl rfl rfl ⟨rfl, rfl, rfl, rfl, rfl⟩ rfl rfl rfl rfl rfl (by kernel_rfl) Try.func11 (by kernel_rfl)
    (of_decide_eq_true (by kernel_rfl)) (by unfold Func.isWrapper; first | (rw [if_pos (by decide +kernel)]; kernel_rfl) | (rw [if_neg (by decide +kernel)]; exact ⟨rfl, rfl⟩))
    (fun os started H enc _ => lifted os started H enc)
end Go.Proofs.Ytpfddihcikiofaa.kboRules
namespace Go.Proofs.Ytpfddihcikiofaa
theorem kboRules_holds : Rows.KboRulesSaid := kboRules.over
#print axioms kboRules_holds
end Go.Proofs.Ytpfddihcikiofaa
end
