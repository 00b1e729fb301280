/- The law TermPlaces holds of every input. Part 5 of 6: PxSoritesref06Places, PxSoritesref06SamePlaces, GRPlace, GTlRegs, GTermPlaces. -/
import Derived.Test.YtpfddihcikiofaaZTermPlaces2
import Derived.Test.YtpfddihcikiofaaZTermPlaces4
import Derived.Test.YtpfddihcikiofaaZTermPlaces1
import Derived.Test.YtpfddihcikiofaaZTermPlaces3
section
namespace Go.Proofs.Ytpfddihcikiofaa.P
open Go.RowKit Go.Proofs.YtpfddihcikiofaaW.PrintWords Go.Proofs.YtpfddihcikiofaaW.PrintLast Go.Proofs.YtpfddihcikiofaaW.PrintMore
attribute [local go_sem] max2_int min2_int max_two min_two max_three min_three max_four min_four
set_option linter.unusedVariables false
set_option linter.unusedSimpArgs false
mutual
def soritesref06_Places.l0 : Nat → List Int → List (List Int) → Int → Int → List (S24) → Option ((List (List Int)))
  | 0, _, _, _, _, _ => none
  | k + 1, x0, x5, x6, x136000, x136001 => if x136000 ≥ 0 then (if x6 < (x136001.length : Int) then ((some (([] : List Int) : List Int)).bind fun y139 => (if y139.length + x0.length < 17592186044416 then ((some (y139 ++ x0 : List Int)).bind fun y142 => ((some (([x6] : List Int) : List Int)).bind fun y145 => (if y142.length + y145.length < 17592186044416 then (if 0 ≤ x6 then ((soritesref06_Places.f k (y142 ++ y145) ((rd_T24 x136001 x6).f0) ((rd_T24 x136001 x6).f1)).bind fun t152 => (if x5.length + t152.length < 5864062014805 then (soritesref06_Places.l0 k x0 (x5 ++ t152) (wrap64 (x6 + 1)) x136000 x136001) else (none))) else (none)) else (none)))) else (none))) else (some x5)) else (some x5)
def soritesref06_Places.f : Nat → List Int → Int → List (S24) → Option ((List (List Int)))
  | 0, _, _, _ => none
  | k + 1, l0, a1_0, l1_1 => soritesref06_Places.l0 k l0 (([l0] : List (List Int))) 0 a1_0 l1_1
end
def soritesref06_Places.T5 : Bool × List (List Nat × List Nat) := (true, [([], []), ([], []), ([], []), ([1, 2], [1, 2]), ([], []), ([4], [4]), ([3, 5, 3], [3, 5]), ([], []), ([7], [7]), ([], []), ([8, 9], [8, 9]), ([10], [10]), ([6, 11, 6], [6, 11]), ([0, 12, 12], [0, 12]), ([13, 13, 0, 1, 2, 3, 4, 5, 6, 7, 8, 9, 10, 11, 12, 13], [0, 13])])
def soritesref06_Places.B5 : List Nat := [0, 0, 0, 6, 0, 16, 62, 0, 128, 0, 896, 1920, 4094, 8191, 16383]
theorem soritesref06_Places.tab5 : rtab .any (opsOf Try.f25 5) = soritesref06_Places.T5 := by kernel_rfl
theorem soritesref06_Places.bits5 : waitsOk soritesref06_Places.T5.2 soritesref06_Places.B5 = true := by kernel_rfl
set_option maxHeartbeats 8000000 in
set_option maxRecDepth 100000 in
theorem soritesref06_Places.calls (k : Nat) : ∀ (P0_ : Nat → Prop) (A0 : Option Addr) (c0 : Nat) (l0 : List Int) (a1_0 : Int) (A1_1 : Option Addr) (c1_1 : Nat) (l1_1 : List (S24)) (r : List (List Int)) (w : World) (hs0 : Kd.V (Kd.int .i64) 3 w w.heap.size (fun k_ => P0_ k_) (.slice A0 l0.length c0) l0) (hr1_1 : Kd.C k24 w A1_1 l1_1.length l1_1) (hc1_1 : l1_1.length ≤ c1_1) (h : soritesref06_Places.f k l0 a1_0 l1_1 = some r),
    Calls Try.prog 25 #[.slice A0 l0.length c0, .agg #[.int .i64 a1_0, .slice A1_1 l1_1.length c1_1]] w fun e w' => ∃ v0_ : Value, e = .returned (v0_) ∧ Kd.N (Kd.slice 3 (Kd.int .i64)) 25 w' w.heap.size (fun k_ => (P0_ k_ ∨ w.heap.size ≤ k_)) v0_ r ∧ Below w.heap.size w w' := by
  induction k using Nat.strongRecOn with
  | _ k ih =>
  intro P0_ A0 c0 l0 a1_0 A1_1 c1_1 l1_1 r w hs0 hr1_1 hc1_1 h
  cases k with
  | zero => exact absurd h (by simp [soritesref06_Places.f])
  | succ k =>
  simp only [soritesref06_Places.f] at h
  have hu24 := Try.underlying24
  have HO0 := Aside0.mk (show Kd.V (Kd.int .i64) 3 w w.heap.size (fun k_ => (P0_ k_ ∨ w.heap.size ≤ k_)) (.slice A0 l0.length c0) l0 from Kd.V_mono hs0 (fun k_ hk => .inl hk))
  have HR1_1 := Aside0.mk hr1_1
  have HC1_1 := Aside0.mk hc1_1
  clear hr1_1 hc1_1
  have HB := Aside0.mk (Below.refl w.heap.size w)
  have H : (soritesref06_Places.l0 k l0 (([l0] : List (List Int))) 0 a1_0 l1_1) = some r := h
  clear h
  obtain ⟨y136, hy136⟩ : ∃ y_ : List (List Int), y_ = (([l0] : List (List Int))) := ⟨_, rfl⟩
  replace H : (soritesref06_Places.l0 k l0 y136 0 a1_0 l1_1) = some r := by first | (rw [hy136]; with_reducible exact H) | (have H2_ := (Option.bind_some _ _).symm.trans H; rw [hy136]; with_reducible exact H2_) | (have H2_ := (Option.bind_some _ _).symm.trans H; with_reducible exact H2_) | with_reducible exact H | (rw [hy136]; exact H) | exact H
  have Ny136 := Aside0.mk hy136
  clear hy136
  have H' := Aside0.mk H
  clear H
  go_enter Try.func25, Try.ntmps25
  go_wp2_with (first | ((with_reducible refine gate_dst (N := 3) rfl ?_); (try (refine gate_guard (by rfl) ?_; dsimp only)); refine box_event ?hg (N := 3) ?hd (cs := #[.int .i64 a1_0, .slice A1_1 l1_1.length c1_1]) (t := 24) ?hr ?_; (case hd => rfl); (case hg => rfl); (case hr => first | (go_simp; done) | (go_simp; rfl)); intro gb135 hg w3 hbox hb; have n0_ := Aside0.mk (Kd.V_below (Kd.V_elderB (by (with_reducible repeat (first | apply Kd.V_alloc | apply Kd.V_drewN | apply Kd.V_drew)); exact HO0.out) gb135 (Nat.le_of_eq hg.symm)) hb); have n1_ := Aside0.mk (below_step (by repeat (first | (with_reducible first | exact HB.out | apply below_alloc | apply pw_below_drewN | apply below_drew1) | exact HB.out)) hb); have n2_ := Aside0.mk (hbox); have n3_ := Aside0.mk ((by rw [hg]; exact (below_size (by repeat (first | (with_reducible first | exact HB.out | apply below_alloc | apply pw_below_drewN | apply below_drew1) | exact HB.out))) : w.heap.size ≤ gb135)); have n4_ := Aside0.mk ((by rw [hg]; exact (below_size (by repeat (first | (with_reducible first | exact HB.out | apply below_alloc | apply pw_below_drewN | apply below_drew1) | exact HB.out))) : w.heap.size ≤ gb135)); clear HO0; clear HB; have HO0 := n0_; have HB := n1_; have BK135 := n2_; have GW135 := n3_; have GE135 := n4_; clear n0_ n1_ n2_ n3_ n4_; clear hb hbox hg) | ((with_reducible refine gate_dst (N := 8) rfl ?_); (try (refine gate_guard (by rfl) ?_; dsimp only)); refine Kd.N_lit (Kd.slice 3 (Kd.int .i64)) _ 25 ?hg (N' := 8) ?hd (xs := ([l0] : List (List Int))) (inner := [.slice A0 l0.length c0]) (ok := (fun k_ => (P0_ k_ ∨ w.heap.size ≤ k_) ∧ k_ ≠ gb135)) (okp := (fun k_ => (P0_ k_ ∨ w.heap.size ≤ k_) ∧ k_ ≠ gb135)) ?hr ?hp (fun _ hk => hk) ((show ∀ k_, w3.heap.size ≤ k_ → (fun k_ => (P0_ k_ ∨ w.heap.size ≤ k_) ∧ k_ ≠ gb135) k_ from fun k_ hk => ⟨(.inr (Nat.le_trans (below_size (by repeat (first | (with_reducible first | exact HB.out | apply below_alloc | apply pw_below_drewN | apply below_drew1 | refine below_set ?_ GE135.out) | exact HB.out))) hk)), Kd.freshB (g := gb135) (o := .cells #[.int .i64 a1_0, .slice A1_1 l1_1.length c1_1] 24 (0, 0)) (by (with_reducible repeat (first | refine blk_drewN ?_ _ | refine blk_drew ?_ | refine blk_alloc ?_ _)); exact BK135.out) k_ hk⟩) _ (Nat.le_refl _)) (Below.refl _ _) (Nat.le_refl _) (by simp) ?_; (case hd => rfl); (case hg => rfl); (case hr => first | (go_simp; done) | (go_simp; rfl)); (case hp => exact (Reps.one (show Kd.FK (Kd.slice 3 (Kd.int .i64)) _ _ l0 [.slice A0 l0.length c0] from (Kd.FK_slice_mk (Kd.V_reads' (Kd.V_mono (ok' := (fun k_ => (P0_ k_ ∨ w.heap.size ≤ k_) ∧ k_ ≠ gb135)) (HO0.out) (fun k_ hk => ⟨hk.1, hk.2⟩))).2.1 (Kd.V_F (Kd.V_mono (ok' := (fun k_ => (P0_ k_ ∨ w.heap.size ≤ k_) ∧ k_ ≠ gb135)) (HO0.out) (fun k_ hk => ⟨hk.1, hk.2⟩))))) (Reps.none _ _))); intro v137 w4 ho5 hb hg_ hnew_; clear hg_ hnew_; (first | rw [← Ny136.out] at ho5 | (simp only [Int.reduceToNat] at ho5; rw [← Ny136.out] at ho5)); have n0_ := Aside0.mk (Kd.V_elder' (by (with_reducible repeat (first | apply Kd.V_alloc | apply Kd.V_drewN | apply Kd.V_drew)); exact HO0.out) (Kd.N_base ho5) hb); have n1_ := Aside0.mk (Kd.N_lower ho5 (below_size (by repeat (first | (with_reducible first | exact HB.out | apply below_alloc | apply pw_below_drewN | apply below_drew1 | refine below_set ?_ GE135.out) | exact HB.out)))); have n2_ := Aside0.mk (blk_below (g := gb135) (o := .cells #[.int .i64 a1_0, .slice A1_1 l1_1.length c1_1] 24 (0, 0)) (by (with_reducible repeat (first | refine blk_drewN ?_ _ | refine blk_drew ?_ | refine blk_alloc ?_ _)); exact BK135.out) hb); have n3_ := Aside0.mk (below_step (by repeat (first | (with_reducible first | exact HB.out | apply below_alloc | apply pw_below_drewN | apply below_drew1 | refine below_set ?_ GE135.out) | exact HB.out)) hb); clear HO0; clear BK135; clear HB; have HO0 := n0_; have HO138 := n1_; have BK135 := n2_; have HB := n3_; clear n0_ n1_ n2_ n3_; clear hb ho5))
  go_loopg [5, 6] k (fun kq v5 v6 w' => ∃ (x5_1 : List (List Int)) (x6_1 : Int), v6 = .int .i64 x6_1 ∧ Aside0 (soritesref06_Places.l0 kq l0 x5_1 x6_1 a1_0 l1_1 = some r) ∧ Aside0 (kq ≤ k) ∧ Aside0 (Kd.V (Kd.int .i64) 3 w' w.heap.size (fun k_ => (P0_ k_ ∨ w.heap.size ≤ k_) ∧ some k_ ≠ (v5 : Value).ownBlock ∧ k_ ≠ gb135) (.slice A0 l0.length c0) l0) ∧ Aside0 (Kd.N (Kd.slice 3 (Kd.int .i64)) 25 w' w.heap.size (fun k_ => (P0_ k_ ∨ w.heap.size ≤ k_) ∧ k_ ≠ gb135) v5 x5_1) ∧ Aside0 (w'.heap[gb135]? = some (.cells #[.int .i64 a1_0, (.slice A1_1 l1_1.length c1_1)] 24 (0, 0))) ∧ Aside0 (Below w.heap.size w w'))
  case atStart => exact ⟨(y136), (0), (by first | rfl | (simp; done) | (simp [*]; done)), H', ⟨Nat.le_refl _⟩, ⟨by (with_reducible repeat (first | apply Kd.V_alloc | apply Kd.V_drewN | apply Kd.V_drew)); exact Kd.V_mono HO0.out (fun _ hk => ⟨hk.1.1, ⟨hk.2, hk.1.2⟩⟩)⟩, ⟨by (with_reducible repeat (first | apply Kd.N_alloc | apply Kd.N_drewN | apply Kd.N_drew)); exact HO138.out⟩, ⟨by (with_reducible repeat (first | refine blk_drewN ?_ _ | refine blk_drew ?_ | refine blk_alloc ?_ _)); exact BK135.out⟩, ⟨by repeat (first | (with_reducible first | exact HB.out | apply below_alloc | apply pw_below_drewN | apply below_drew1 | refine below_set ?_ GE135.out) | exact HB.out)⟩⟩
  case round =>
    clear H'
    try clear c1
    try clear c2
    try clear p2
    obtain ⟨x5_1, x6_1, rfl, HA, HK1, HO_0, HO_5, BK135, HB⟩ := hrel
    cases gk with
    | zero => exact absurd HA.out (by simp [soritesref06_Places.l0])
    | succ k1 =>
      have H := HA.out
      clear HA
      simp only [soritesref06_Places.l0] at H
      by_cases c6 : a1_0 ≥ 0
      · rw [if_pos c6] at H
        have c6b0 : decide (0 ≤ a1_0) = true := decide_eq_true c6
        clear c6
        by_cases c7 : x6_1 < (l1_1.length : Int)
        · rw [if_pos c7] at H
          have c7b0 : decide (x6_1 < (l1_1.length : Int)) = true := decide_eq_true c7
          clear c7
          obtain ⟨y139, hy139⟩ : ∃ y_ : List Int, y_ = (([] : List Int)) := ⟨_, rfl⟩
          replace H : (if y139.length + l0.length < 17592186044416 then ((some (y139 ++ l0 : List Int)).bind fun y142 => ((some (([x6_1] : List Int) : List Int)).bind fun y145 => (if y142.length + y145.length < 17592186044416 then (if 0 ≤ x6_1 then ((soritesref06_Places.f k1 (y142 ++ y145) ((rd_T24 l1_1 x6_1).f0) ((rd_T24 l1_1 x6_1).f1)).bind fun t152 => (if x5_1.length + t152.length < 5864062014805 then (soritesref06_Places.l0 k1 l0 (x5_1 ++ t152) (wrap64 (x6_1 + 1)) a1_0 l1_1) else (none))) else (none)) else (none)))) else (none)) = some r := by first | (rw [hy139]; with_reducible exact H) | (have H2_ := (Option.bind_some _ _).symm.trans H; rw [hy139]; with_reducible exact H2_) | (have H2_ := (Option.bind_some _ _).symm.trans H; with_reducible exact H2_) | with_reducible exact H | (rw [hy139]; exact H) | exact H
          have Ny139 := Aside0.mk hy139
          clear hy139
          by_cases c8 : y139.length + l0.length < 17592186044416
          · rw [if_pos c8] at H
            have LMc8 := Aside0.mk c8
            clear c8
            obtain ⟨y142, hy142⟩ : ∃ y_ : List Int, y_ = (y139 ++ l0) := ⟨_, rfl⟩
            replace H : ((some (([x6_1] : List Int) : List Int)).bind fun y145 => (if y142.length + y145.length < 17592186044416 then (if 0 ≤ x6_1 then ((soritesref06_Places.f k1 (y142 ++ y145) ((rd_T24 l1_1 x6_1).f0) ((rd_T24 l1_1 x6_1).f1)).bind fun t152 => (if x5_1.length + t152.length < 5864062014805 then (soritesref06_Places.l0 k1 l0 (x5_1 ++ t152) (wrap64 (x6_1 + 1)) a1_0 l1_1) else (none))) else (none)) else (none))) = some r := by first | (rw [hy142]; with_reducible exact H) | (have H2_ := (Option.bind_some _ _).symm.trans H; rw [hy142]; with_reducible exact H2_) | (have H2_ := (Option.bind_some _ _).symm.trans H; with_reducible exact H2_) | with_reducible exact H | (rw [hy142]; exact H) | exact H
            have Ny142 := Aside0.mk hy142
            clear hy142
            obtain ⟨y145, hy145⟩ : ∃ y_ : List Int, y_ = (([x6_1] : List Int)) := ⟨_, rfl⟩
            replace H : (if y142.length + y145.length < 17592186044416 then (if 0 ≤ x6_1 then ((soritesref06_Places.f k1 (y142 ++ y145) ((rd_T24 l1_1 x6_1).f0) ((rd_T24 l1_1 x6_1).f1)).bind fun t152 => (if x5_1.length + t152.length < 5864062014805 then (soritesref06_Places.l0 k1 l0 (x5_1 ++ t152) (wrap64 (x6_1 + 1)) a1_0 l1_1) else (none))) else (none)) else (none)) = some r := by first | (rw [hy145]; with_reducible exact H) | (have H2_ := (Option.bind_some _ _).symm.trans H; rw [hy145]; with_reducible exact H2_) | (have H2_ := (Option.bind_some _ _).symm.trans H; with_reducible exact H2_) | with_reducible exact H | (rw [hy145]; exact H) | exact H
            have Ny145 := Aside0.mk hy145
            clear hy145
            by_cases c9 : y142.length + y145.length < 17592186044416
            · rw [if_pos c9] at H
              have LMc9 := Aside0.mk c9
              clear c9
              obtain ⟨y148, hy148⟩ : ∃ y_ : List Int, y_ = (y142 ++ y145) := ⟨_, rfl⟩
              replace H : (if 0 ≤ x6_1 then ((soritesref06_Places.f k1 y148 ((rd_T24 l1_1 x6_1).f0) ((rd_T24 l1_1 x6_1).f1)).bind fun t152 => (if x5_1.length + t152.length < 5864062014805 then (soritesref06_Places.l0 k1 l0 (x5_1 ++ t152) (wrap64 (x6_1 + 1)) a1_0 l1_1) else (none))) else (none)) = some r := by first | (rw [hy148]; with_reducible exact H) | (have H2_ := (Option.bind_some _ _).symm.trans H; rw [hy148]; with_reducible exact H2_) | (have H2_ := (Option.bind_some _ _).symm.trans H; with_reducible exact H2_) | with_reducible exact H | (rw [hy148]; exact H) | exact H
              have Ny148 := Aside0.mk hy148
              clear hy148
              by_cases c10 : 0 ≤ x6_1
              · rw [if_pos c10] at H
                have c10b0 : decide (0 ≤ x6_1) = true := decide_eq_true c10
                clear c10
                replace H := Option.bind_eq_some_iff.mp H
                obtain ⟨t152, A110, H⟩ := H
                replace H : (if x5_1.length + t152.length < 5864062014805 then (soritesref06_Places.l0 k1 l0 (x5_1 ++ t152) (wrap64 (x6_1 + 1)) a1_0 l1_1) else (none)) = some r := H
                have A11 := Aside0.mk A110
                clear A110
                by_cases c12 : x5_1.length + t152.length < 5864062014805
                · rw [if_pos c12] at H
                  have LMc12 := Aside0.mk c12
                  clear c12
                  obtain ⟨y155, hy155⟩ : ∃ y_ : List (List Int), y_ = (x5_1 ++ t152) := ⟨_, rfl⟩
                  replace H : (soritesref06_Places.l0 k1 l0 y155 (wrap64 (x6_1 + 1)) a1_0 l1_1) = some r := by first | (rw [hy155]; with_reducible exact H) | (have H2_ := (Option.bind_some _ _).symm.trans H; rw [hy155]; with_reducible exact H2_) | (have H2_ := (Option.bind_some _ _).symm.trans H; with_reducible exact H2_) | with_reducible exact H | (rw [hy155]; exact H) | exact H
                  have Ny155 := Aside0.mk hy155
                  clear hy155
                  have H' := Aside0.mk H
                  clear H
                  have hcz13_0 : wr.cell? ⟨gb135, 0, none⟩ = some (.int .i64 a1_0) := (blk_cell BK135.out 0).trans rfl
                  have hcz13_1 : wr.cell? ⟨gb135, 1, none⟩ = some (.slice A1_1 l1_1.length c1_1) := (blk_cell BK135.out 1).trans rfl
                  have hfz13_0 := blk_frozen BK135.out 0
                  have hfz13_1 := blk_frozen BK135.out 1
                  obtain ⟨Ao14, co14, eo14⟩ := Kd.N_slice HO_5.out
                  subst eo14
                  try go_wp2
                  have n0_ := Aside0.mk (Kd.V_drew HO_0.out)
                  have n1_ := Aside0.mk (Kd.N_drew HO_5.out)
                  have n2_ := Aside0.mk (blk_drew BK135.out)
                  have n3_ := Aside0.mk (below_drew1 HB.out)
                  clear HO_0
                  clear HO_5
                  clear BK135
                  clear HB
                  have HO_0 := n0_
                  have HO_5 := n1_
                  have BK135 := n2_
                  have HB := n3_
                  clear n0_ n1_ n2_ n3_
                  have p151 : 0 ≤ (x6_1 : Int) := of_decide_eq_true (by first | (with_reducible assumption) | assumption)
                  have q151 : x6_1 < (l1_1.length : Int) := of_decide_eq_true (by first | (with_reducible assumption) | assumption)
                  obtain ⟨ad151, A151_1, c151_1, e151, hx151_0, hx151_1, hl151_1, hi151_1⟩ := at_T24 HR1_1.out x6_1 p151 q151
                  have hw151_1 := hx151_1
                  have hw151_0 := hx151_0
                  cases e151
                  replace hx151_0 := (HB.out.cell (World.block_lt_of_cell? w _ hx151_0)).trans hx151_0
                  replace hx151_1 := (HB.out.cell (World.block_lt_of_cell? w _ hx151_1)).trans hx151_1
                  have HR151_1 := Aside0.mk hi151_1
                  have HC151_1 := Aside0.mk hl151_1
                  clear hi151_1 hl151_1
                  replace p151 := eq_true p151
                  replace q151 := eq_true q151
                  refine start_ (n := 15) (S := fun w' => w'.cell? ⟨gb135, 0, none⟩ = some (.int .i64 a1_0) ∧ w'.cell? ⟨gb135, 1, none⟩ = some (.slice (some ad151) l1_1.length c1_1) ∧ w'.cell? (ad151.add ((x6_1).toNat * 2)) = some (.int .i64 ((rd_T24 l1_1 x6_1).f0)) ∧ w'.cell? ⟨(ad151.add ((x6_1).toNat * 2)).block, (ad151.add ((x6_1).toNat * 2)).off + 1, none⟩ = some (.slice A151_1 ((rd_T24 l1_1 x6_1).f1).length c151_1)) (ds := []) #[false, false, false, false, false, false, false, false, false, false, false, false, false, false, false] (by kernel_rfl) rfl rfl ⟨(blk_cell BK135.out 0).trans rfl, (blk_cell BK135.out 1).trans rfl, ((HB.out.cell (World.block_lt_of_cell? w _ hw151_0)).trans hw151_0), ((HB.out.cell (World.block_lt_of_cell? w _ hw151_1)).trans hw151_1)⟩ (fun hHeld => ?_); refine with_tabW soritesref06_Places.tab5 soritesref06_Places.bits5 (fun HT_ HW_ => ?_)
                  generalize wr.drew = w15 at HO_0 HO_5 BK135 HB HR151_1 hx151_0 hx151_1 hHeld ⊢
                  refine pure_ (i := 0) (N := some 21) (v := ?_) (a' := ?_) #[true, false, false, false, false, false, false, false, false, false, false, false, false, false, false] rfl rfl (any_of HT_.out (by kernel_rfl)) (fun _ _ _ h => h) (Or.inl ⟨by rfl, ?_⟩) ?_ ?_
                  rotate_left
                  · intro w'
                    go_simp
                    with_reducible rfl
                  rotate_left
                  · simp only [Act.put, List.setIfInBounds_toArray, List.set_cons_zero, List.set_cons_succ, i64_w, i32_w]
                    rfl
                  refine pure_ (i := 2) (N := some 23) (v := ?_) (a' := ?_) #[true, false, true, false, false, false, false, false, false, false, false, false, false, false, false] rfl rfl (any_of HT_.out (by kernel_rfl)) (fun _ _ _ h => h) (Or.inl ⟨by rfl, ?_⟩) ?_ ?_
                  rotate_left
                  · intro w'
                    go_simp
                    with_reducible rfl
                  rotate_left
                  · simp only [Act.put, List.setIfInBounds_toArray, List.set_cons_zero, List.set_cons_succ, i64_w, i32_w]
                    rfl
                  refine pure_ (i := 4) (N := some 25) (v := ?_) (a' := ?_) #[true, false, true, false, true, false, false, false, false, false, false, false, false, false, false] rfl rfl (any_of HT_.out (by kernel_rfl)) (fun _ _ _ h => h) (Or.inl ⟨by rfl, ?_⟩) ?_ ?_
                  rotate_left
                  · intro w'
                    go_simp
                    with_reducible rfl
                  rotate_left
                  · simp only [Act.put, List.setIfInBounds_toArray, List.set_cons_zero, List.set_cons_succ, i64_w, i32_w]
                    rfl
                  refine pure_ (i := 7) (N := some 28) (v := ?_) (a' := ?_) #[true, false, true, false, true, false, false, true, false, false, false, false, false, false, false] rfl rfl (any_of HT_.out (by kernel_rfl)) (fun _ _ _ h => h) (Or.inl ⟨by rfl, ?_⟩) ?_ ?_
                  rotate_left
                  · intro w'
                    go_simp
                    with_reducible rfl
                  rotate_left
                  · simp only [Act.put, List.setIfInBounds_toArray, List.set_cons_zero, List.set_cons_succ, i64_w, i32_w]
                    rfl
                  refine pure_ (i := 9) (N := some 30) (v := ?_) (a' := ?_) #[true, false, true, false, true, false, false, true, false, true, false, false, false, false, false] rfl rfl (any_of HT_.out (by kernel_rfl)) (fun _ _ _ h => h) (Or.inl ⟨by rfl, ?_⟩) ?_ ?_
                  rotate_left
                  · intro w'
                    go_simp
                    with_reducible rfl
                  rotate_left
                  · simp only [Act.put, List.setIfInBounds_toArray, List.set_cons_zero, List.set_cons_succ, i64_w, i32_w]
                    rfl
                  refine take_ (i := 8) (N := some 29) (v := ?_) (a' := ?_) #[true, false, true, false, true, false, false, true, true, true, false, false, false, false, false] rfl rfl (take_ofW HT_.out HW_.out (by kernel_rfl)) (fun _ _ _ h => h) (Or.inl ⟨by rfl, ?_⟩) hHeld ?_ ?_
                  rotate_left
                  · rintro w' ⟨s0, s1, s2, s3⟩
                    go_simp
                    with_reducible rfl
                  rotate_left
                  · simp only [Act.put, List.setIfInBounds_toArray, List.set_cons_zero, List.set_cons_succ, i64_w, i32_w]
                    rfl
                  refine pure_ (i := 10) (N := some 31) (v := ?_) (a' := ?_) #[true, false, true, false, true, false, false, true, true, true, true, false, false, false, false] rfl rfl (any_of HT_.out (by kernel_rfl)) (fun _ _ _ h => h) (Or.inl ⟨by rfl, ?_⟩) ?_ ?_
                  rotate_left
                  · intro w'
                    go_simp
                    with_reducible rfl
                  rotate_left
                  · simp only [Act.put, List.setIfInBounds_toArray, List.set_cons_zero, List.set_cons_succ, i64_w, i32_w]
                    rfl
                  refine take_ (i := 11) (N := some 32) (v := ?_) (a' := ?_) #[true, false, true, false, true, false, false, true, true, true, true, true, false, false, false] rfl rfl (take_ofW HT_.out HW_.out (by kernel_rfl)) (fun _ _ _ h => h) (Or.inl ⟨by rfl, ?_⟩) hHeld ?_ ?_
                  rotate_left
                  · rintro w' ⟨s0, s1, s2, s3⟩
                    go_simp
                    with_reducible rfl
                  rotate_left
                  · simp only [Act.put, List.setIfInBounds_toArray, List.set_cons_zero, List.set_cons_succ, i64_w, i32_w]
                    rfl
                  refine join_ (σ := Value × Value × Value) 4 #[true, true, true, true, true, true, false, true, true, true, true, true, false, false, false] (fun s_ => [(22, s_.1), (24, s_.2.1), (26, s_.2.2)]) (fun s_ w' => (w'.cell? ⟨gb135, 0, none⟩ = some (.int .i64 a1_0) ∧ w'.cell? ⟨gb135, 1, none⟩ = some (.slice (some ad151) l1_1.length c1_1) ∧ w'.cell? (ad151.add ((x6_1).toNat * 2)) = some (.int .i64 ((rd_T24 l1_1 x6_1).f0)) ∧ w'.cell? ⟨(ad151.add ((x6_1).toNat * 2)).block, (ad151.add ((x6_1).toNat * 2)).off + 1, none⟩ = some (.slice A151_1 ((rd_T24 l1_1 x6_1).f1).length c151_1)) ∧ (Kd.R (Kd.int .i64) 3 w' w.heap.size (fun k_ => (w.heap.size ≤ k_) ∧ some k_ ≠ (s_.2.2 : Value).ownBlock) s_.2.1 y142) ∧ (Kd.R (Kd.int .i64) 3 w' w.heap.size (fun k_ => (w.heap.size ≤ k_) ∧ some k_ ≠ (s_.2.1 : Value).ownBlock) s_.2.2 y145) ∧ (Kd.V (Kd.int .i64) 3 w' w.heap.size (fun k_ => (P0_ k_ ∨ w.heap.size ≤ k_) ∧ some k_ ≠ (s_.2.1 : Value).ownBlock ∧ some k_ ≠ (s_.2.2 : Value).ownBlock ∧ some k_ ≠ (.slice Ao14 x5_1.length co14 : Value).ownBlock ∧ k_ ≠ gb135) (.slice A0 l0.length c0) l0) ∧ (Kd.N (Kd.slice 3 (Kd.int .i64)) 25 w' w.heap.size (fun k_ => (P0_ k_ ∨ w.heap.size ≤ k_) ∧ some k_ ≠ (s_.2.1 : Value).ownBlock ∧ some k_ ≠ (s_.2.2 : Value).ownBlock ∧ k_ ≠ gb135) (.slice Ao14 x5_1.length co14) x5_1) ∧ (w'.heap[gb135]? = some (.cells #[.int .i64 a1_0, .slice (some ad151) l1_1.length c1_1] 24 (0, 0))) ∧ (Below w.heap.size w w')) ?_ ?_
                  rotate_left
                  · intro hCont
                    refine two_ (i := 1) (j := 5) (Ni := some 22) (Nj := some 26) #[true, true, true, false, true, false, false, true, true, true, true, true, false, false, false] #[true, false, true, false, true, true, false, true, true, true, true, true, false, false, false] rfl rfl rfl rfl (two_of HT_.out (by kernel_rfl)) (by decide) (by decide) (fun K hK => ?_) (fun K hK => ?_)
                    · skip
                      refine Kd.R_lit_step (Kd.int .i64) _ 3 ?hg (N := 22) ?hd (xs := ([] : List Int)) (inner := []) (ok := fun _ => True) (okp := fun _ => True) ?hr ?hp (fun _ hk => hk) trivial (Below.refl _ _) (Nat.le_refl _) (by simp) ?_; (case hd => rfl); (case hg => rfl); (case hr => first | (go_simp; done) | (go_simp; rfl)); (case hp => exact (Reps.none _ _))
                      intro v140 w16 ho17 hb hg_ hnew_
                      clear hg_ hnew_
                      (first | rw [← Ny139.out] at ho17 | (simp only [Int.reduceToNat] at ho17; rw [← Ny139.out] at ho17))
                      have n0_ := Aside0.mk (Kd.V_elder' (by (with_reducible repeat (first | apply Kd.V_alloc | apply Kd.V_drewN | apply Kd.V_drew)); exact HO_0.out) (Kd.R_base ho17) hb)
                      have n1_ := Aside0.mk (Kd.N_elder' (by (with_reducible repeat (first | apply Kd.N_alloc | apply Kd.N_drewN | apply Kd.N_drew)); exact HO_5.out) (Kd.R_base ho17) hb)
                      have n2_ := Aside0.mk (Kd.R_lower (Kd.R_newM (M := fun k_ => (w.heap.size ≤ k_)) ho17 (below_size (by repeat (first | (with_reducible first | exact HB.out | apply below_alloc | apply pw_below_drewN | apply below_drew1 | refine below_set ?_ GE135.out) | exact HB.out))) (fun k_ h_ => h_)) (below_size (by repeat (first | (with_reducible first | exact HB.out | apply below_alloc | apply pw_below_drewN | apply below_drew1 | refine below_set ?_ GE135.out) | exact HB.out))))
                      have n3_ := Aside0.mk (blk_below (g := gb135) (o := .cells #[.int .i64 a1_0, .slice (some ad151) l1_1.length c1_1] 24 (0, 0)) (by (with_reducible repeat (first | refine blk_drewN ?_ _ | refine blk_drew ?_ | refine blk_alloc ?_ _)); exact BK135.out) hb)
                      have n4_ := Aside0.mk (below_step (by repeat (first | (with_reducible first | exact HB.out | apply below_alloc | apply pw_below_drewN | apply below_drew1 | refine below_set ?_ GE135.out) | exact HB.out)) hb)
                      clear HO_0
                      clear HO_5
                      clear BK135
                      clear HB
                      have HO_0 := n0_
                      have HO_5 := n1_
                      have HO141 := n2_
                      have BK135 := n3_
                      have HB := n4_
                      clear n0_ n1_ n2_ n3_ n4_
                      clear hb ho17
                      refine hK.out _ _ ⟨(blk_cell BK135.out 0).trans rfl, (blk_cell BK135.out 1).trans rfl, ((HB.out.cell (World.block_lt_of_cell? w _ hw151_0)).trans hw151_0), ((HB.out.cell (World.block_lt_of_cell? w _ hw151_1)).trans hw151_1)⟩ (fun hHeld => ?_)
                      clear hK K
                      refine norm_ (a' := ?_) ?_ ?_
                      rotate_left
                      · show Act.put _ (some 22) _ = _
                        simp only [Act.put, List.setIfInBounds_toArray, List.set_cons_zero, List.set_cons_succ, i64_w, i32_w]
                        rfl
                      refine two_ (i := 3) (j := 5) (Ni := some 24) (Nj := some 26) #[true, true, true, true, true, false, false, true, true, true, true, true, false, false, false] #[true, true, true, false, true, true, false, true, true, true, true, true, false, false, false] rfl rfl rfl rfl (two_of HT_.out (by kernel_rfl)) (by decide) (by decide) (fun K hK => ?_) (fun K hK => ?_)
                      · skip
                        refine Kd.R_append_rows_step (Kd.int .i64) (w0 := w) w.heap.size (by rfl) (.tmp 22) (.tmp 23) 25 3 (.int .i64 0) 8 rfl Try.underlying25 info3 rfl (by decide) (by omega) v140 y139 l0 _ _ _ (fun k_ => (w.heap.size ≤ k_)) (fun _ => False) rfl rfl ?aO ?aR (fun _ _ h => h) (fun _ h => h.elim) ?aF ?aB ?aS ?aL ?_
                        (case aR => repeat (first | exact (Kd.V_reads' HO_0.out).2.2 | (with_reducible refine Kd.C_alloc ?_ _) | (with_reducible refine Kd.C_drewN ?_ _) | (with_reducible refine Kd.C_drew ?_)))
                        (case aB => exact (by repeat (first | (with_reducible first | exact HB.out | apply below_alloc | apply pw_below_drewN | apply below_drew1 | refine below_set ?_ GE135.out) | exact HB.out)))
                        (case aF => exact (fun k_ hk => (Nat.le_trans (below_size (by repeat (first | (with_reducible first | exact HB.out | apply below_alloc | apply pw_below_drewN | apply below_drew1 | refine below_set ?_ GE135.out) | exact HB.out))) hk)))
                        (case aO => exact (by (with_reducible repeat (first | apply Kd.R_alloc | apply Kd.R_drewN | apply Kd.R_drew)); exact Kd.R_mono HO141.out (fun _ hk => hk.1)))
                        (case aS => exact (below_size (by repeat (first | (with_reducible first | exact HB.out | apply below_alloc | apply pw_below_drewN | apply below_drew1 | refine below_set ?_ GE135.out) | exact HB.out))))
                        (case aL => have := LMc8.out; omega)
                        intro v143 w18 ho hb hg hat
                        rw [← Ny142.out] at ho
                        have n0_ := Aside0.mk (Kd.V_afterv (ok := (fun k_ => (P0_ k_ ∨ w.heap.size ≤ k_) ∧ some k_ ≠ (.slice Ao14 x5_1.length co14 : Value).ownBlock ∧ k_ ≠ gb135)) (by (with_reducible repeat (first | apply Kd.V_alloc | apply Kd.V_drewN | apply Kd.V_drew)); exact HO_0.out) hg hat)
                        have n1_ := Aside0.mk (Kd.N_afterv (ok := (fun k_ => (P0_ k_ ∨ w.heap.size ≤ k_) ∧ k_ ≠ gb135)) (by (with_reducible repeat (first | apply Kd.N_alloc | apply Kd.N_drewN | apply Kd.N_drew)); exact HO_5.out) hg hat)
                        have n2_ := Aside0.mk (blk_grown (g := gb135) (o := .cells #[.int .i64 a1_0, .slice (some ad151) l1_1.length c1_1] 24 (0, 0)) (by (with_reducible repeat (first | refine blk_drewN ?_ _ | refine blk_drew ?_ | refine blk_alloc ?_ _)); exact BK135.out) hg (Kd.R_ne HO141.out BK135.out (by decide)))
                        have n3_ := Aside0.mk (hb)
                        have n4_ := Aside0.mk (ho)
                        clear HO_0
                        clear HO_5
                        clear BK135
                        clear HB
                        clear HO141
                        have HO_0 := n0_
                        have HO_5 := n1_
                        have BK135 := n2_
                        have HB := n3_
                        have HO144 := n4_
                        clear n0_ n1_ n2_ n3_ n4_
                        clear ho hb hg hat
                        refine hK.out _ _ ⟨(blk_cell BK135.out 0).trans rfl, (blk_cell BK135.out 1).trans rfl, ((HB.out.cell (World.block_lt_of_cell? w _ hw151_0)).trans hw151_0), ((HB.out.cell (World.block_lt_of_cell? w _ hw151_1)).trans hw151_1)⟩ (fun hHeld => ?_)
                        clear hK K
                        refine norm_ (a' := ?_) ?_ ?_
                        rotate_left
                        · show Act.put _ (some 24) _ = _
                          simp only [Act.put, List.setIfInBounds_toArray, List.set_cons_zero, List.set_cons_succ, i64_w, i32_w]
                          rfl
                        refine one_ (i := 5) (N := some 26) #[true, true, true, true, true, true, false, true, true, true, true, true, false, false, false] rfl rfl (one_of HT_.out (by kernel_rfl)) (by decide) (fun K hK => ?_)
                        refine Kd.R_lit_step (Kd.int .i64) _ 3 ?hg (N := 26) ?hd (xs := ([x6_1] : List Int)) (inner := [.int .i64 x6_1]) (ok := fun _ => True) (okp := fun _ => True) ?hr ?hp (fun _ hk => hk) trivial (Below.refl _ _) (Nat.le_refl _) (by simp) ?_; (case hd => rfl); (case hg => rfl); (case hr => first | (go_simp; done) | (go_simp; rfl)); (case hp => exact (Reps.one (show Kd.M (Kd.int .i64) _ _ _ x6_1 [.int .i64 x6_1] from rfl) (Reps.none _ _)))
                        intro v146 w19 ho20 hb hg_ hnew_
                        clear hg_ hnew_
                        (first | rw [← Ny145.out] at ho20 | (simp only [Int.reduceToNat] at ho20; rw [← Ny145.out] at ho20))
                        have n0_ := Aside0.mk (Kd.V_elder' (by (with_reducible repeat (first | apply Kd.V_alloc | apply Kd.V_drewN | apply Kd.V_drew)); exact HO_0.out) (Kd.R_base ho20) hb)
                        have n1_ := Aside0.mk (Kd.N_elder' (by (with_reducible repeat (first | apply Kd.N_alloc | apply Kd.N_drewN | apply Kd.N_drew)); exact HO_5.out) (Kd.R_base ho20) hb)
                        have n2_ := Aside0.mk (Kd.R_elder' (by (with_reducible repeat (first | apply Kd.R_alloc | apply Kd.R_drewN | apply Kd.R_drew)); exact HO144.out) (Kd.R_base ho20) hb)
                        have n3_ := Aside0.mk (Kd.R_lower (Kd.R_new' (Kd.R_newM (M := fun k_ => (w.heap.size ≤ k_)) ho20 (below_size (by repeat (first | (with_reducible first | exact HB.out | apply below_alloc | apply pw_below_drewN | apply below_drew1 | refine below_set ?_ GE135.out) | exact HB.out))) (fun k_ h_ => h_)) (Kd.R_lt (by (with_reducible repeat (first | apply Kd.R_alloc | apply Kd.R_drewN | apply Kd.R_drew)); exact HO144.out))) (below_size (by repeat (first | (with_reducible first | exact HB.out | apply below_alloc | apply pw_below_drewN | apply below_drew1 | refine below_set ?_ GE135.out) | exact HB.out))))
                        have n4_ := Aside0.mk (blk_below (g := gb135) (o := .cells #[.int .i64 a1_0, .slice (some ad151) l1_1.length c1_1] 24 (0, 0)) (by (with_reducible repeat (first | refine blk_drewN ?_ _ | refine blk_drew ?_ | refine blk_alloc ?_ _)); exact BK135.out) hb)
                        have n5_ := Aside0.mk (below_step (by repeat (first | (with_reducible first | exact HB.out | apply below_alloc | apply pw_below_drewN | apply below_drew1 | refine below_set ?_ GE135.out) | exact HB.out)) hb)
                        clear HO_0
                        clear HO_5
                        clear HO144
                        clear BK135
                        clear HB
                        have HO_0 := n0_
                        have HO_5 := n1_
                        have HO144 := n2_
                        have HO147 := n3_
                        have BK135 := n4_
                        have HB := n5_
                        clear n0_ n1_ n2_ n3_ n4_ n5_
                        clear hb ho20
                        refine hK.out _ _ ⟨(blk_cell BK135.out 0).trans rfl, (blk_cell BK135.out 1).trans rfl, ((HB.out.cell (World.block_lt_of_cell? w _ hw151_0)).trans hw151_0), ((HB.out.cell (World.block_lt_of_cell? w _ hw151_1)).trans hw151_1)⟩ (fun hHeld => ?_)
                        clear hK K
                        refine norm_ (a' := ?_) ?_ ?_
                        rotate_left
                        · show Act.put _ (some 26) _ = _
                          simp only [Act.put, List.setIfInBounds_toArray, List.set_cons_zero, List.set_cons_succ, i64_w, i32_w]
                          rfl
                        exact norm_ (by simp only [putAll, Act.put, List.setIfInBounds_toArray, List.set_cons_zero, List.set_cons_succ]) (hCont (v140, v143, v146) _ ⟨hHeld, (by (with_reducible repeat (first | apply Kd.R_alloc | apply Kd.R_drewN | apply Kd.R_drew)); exact HO144.out), (by (with_reducible repeat (first | apply Kd.R_alloc | apply Kd.R_drewN | apply Kd.R_drew)); exact Kd.R_mono HO147.out (fun _ hk => ⟨hk.1.1, hk.2⟩)), (by (with_reducible repeat (first | apply Kd.V_alloc | apply Kd.V_drewN | apply Kd.V_drew)); exact Kd.V_mono HO_0.out (fun _ hk => ⟨hk.1.1.1, ⟨hk.1.2, ⟨hk.2, ⟨hk.1.1.2.1, hk.1.1.2.2⟩⟩⟩⟩)), (by (with_reducible repeat (first | apply Kd.N_alloc | apply Kd.N_drewN | apply Kd.N_drew)); exact Kd.N_mono HO_5.out (fun _ hk => ⟨hk.1.1.1, ⟨hk.1.2, ⟨hk.2, hk.1.1.2⟩⟩⟩)), (by (with_reducible repeat (first | refine blk_drewN ?_ _ | refine blk_drew ?_ | refine blk_alloc ?_ _)); exact BK135.out), (by repeat (first | (with_reducible first | exact HB.out | apply below_alloc | apply pw_below_drewN | apply below_drew1 | refine below_set ?_ GE135.out) | exact HB.out))⟩)
                      · skip
                        refine Kd.R_lit_step (Kd.int .i64) _ 3 ?hg (N := 26) ?hd (xs := ([x6_1] : List Int)) (inner := [.int .i64 x6_1]) (ok := fun _ => True) (okp := fun _ => True) ?hr ?hp (fun _ hk => hk) trivial (Below.refl _ _) (Nat.le_refl _) (by simp) ?_; (case hd => rfl); (case hg => rfl); (case hr => first | (go_simp; done) | (go_simp; rfl)); (case hp => exact (Reps.one (show Kd.M (Kd.int .i64) _ _ _ x6_1 [.int .i64 x6_1] from rfl) (Reps.none _ _)))
                        intro v146 w18 ho19 hb hg_ hnew_
                        clear hg_ hnew_
                        (first | rw [← Ny145.out] at ho19 | (simp only [Int.reduceToNat] at ho19; rw [← Ny145.out] at ho19))
                        have n0_ := Aside0.mk (Kd.V_elder' (by (with_reducible repeat (first | apply Kd.V_alloc | apply Kd.V_drewN | apply Kd.V_drew)); exact HO_0.out) (Kd.R_base ho19) hb)
                        have n1_ := Aside0.mk (Kd.N_elder' (by (with_reducible repeat (first | apply Kd.N_alloc | apply Kd.N_drewN | apply Kd.N_drew)); exact HO_5.out) (Kd.R_base ho19) hb)
                        have n2_ := Aside0.mk (Kd.R_elder' (by (with_reducible repeat (first | apply Kd.R_alloc | apply Kd.R_drewN | apply Kd.R_drew)); exact HO141.out) (Kd.R_base ho19) hb)
                        have n3_ := Aside0.mk (Kd.R_lower (Kd.R_new' (Kd.R_newM (M := fun k_ => (w.heap.size ≤ k_)) ho19 (below_size (by repeat (first | (with_reducible first | exact HB.out | apply below_alloc | apply pw_below_drewN | apply below_drew1 | refine below_set ?_ GE135.out) | exact HB.out))) (fun k_ h_ => h_)) (Kd.R_lt (by (with_reducible repeat (first | apply Kd.R_alloc | apply Kd.R_drewN | apply Kd.R_drew)); exact HO141.out))) (below_size (by repeat (first | (with_reducible first | exact HB.out | apply below_alloc | apply pw_below_drewN | apply below_drew1 | refine below_set ?_ GE135.out) | exact HB.out))))
                        have n4_ := Aside0.mk (blk_below (g := gb135) (o := .cells #[.int .i64 a1_0, .slice (some ad151) l1_1.length c1_1] 24 (0, 0)) (by (with_reducible repeat (first | refine blk_drewN ?_ _ | refine blk_drew ?_ | refine blk_alloc ?_ _)); exact BK135.out) hb)
                        have n5_ := Aside0.mk (below_step (by repeat (first | (with_reducible first | exact HB.out | apply below_alloc | apply pw_below_drewN | apply below_drew1 | refine below_set ?_ GE135.out) | exact HB.out)) hb)
                        clear HO_0
                        clear HO_5
                        clear HO141
                        clear BK135
                        clear HB
                        have HO_0 := n0_
                        have HO_5 := n1_
                        have HO141 := n2_
                        have HO147 := n3_
                        have BK135 := n4_
                        have HB := n5_
                        clear n0_ n1_ n2_ n3_ n4_ n5_
                        clear hb ho19
                        refine hK.out _ _ ⟨(blk_cell BK135.out 0).trans rfl, (blk_cell BK135.out 1).trans rfl, ((HB.out.cell (World.block_lt_of_cell? w _ hw151_0)).trans hw151_0), ((HB.out.cell (World.block_lt_of_cell? w _ hw151_1)).trans hw151_1)⟩ (fun hHeld => ?_)
                        clear hK K
                        refine norm_ (a' := ?_) ?_ ?_
                        rotate_left
                        · show Act.put _ (some 26) _ = _
                          simp only [Act.put, List.setIfInBounds_toArray, List.set_cons_zero, List.set_cons_succ, i64_w, i32_w]
                          rfl
                        refine one_ (i := 3) (N := some 24) #[true, true, true, true, true, true, false, true, true, true, true, true, false, false, false] rfl rfl (one_of HT_.out (by kernel_rfl)) (by decide) (fun K hK => ?_)
                        refine Kd.R_append_rows_step (Kd.int .i64) (w0 := w) w.heap.size (by rfl) (.tmp 22) (.tmp 23) 25 3 (.int .i64 0) 8 rfl Try.underlying25 info3 rfl (by decide) (by omega) v140 y139 l0 _ _ _ (fun k_ => (w.heap.size ≤ k_) ∧ some k_ ≠ (v146 : Value).ownBlock) (fun _ => False) rfl rfl ?aO ?aR (fun _ _ h => h) (fun _ h => h.elim) ?aF ?aB ?aS ?aL ?_
                        (case aR => repeat (first | exact (Kd.V_reads' HO_0.out).2.2 | (with_reducible refine Kd.C_alloc ?_ _) | (with_reducible refine Kd.C_drewN ?_ _) | (with_reducible refine Kd.C_drew ?_)))
                        (case aB => exact (by repeat (first | (with_reducible first | exact HB.out | apply below_alloc | apply pw_below_drewN | apply below_drew1 | refine below_set ?_ GE135.out) | exact HB.out)))
                        (case aF => exact (fun k_ hk => ⟨(Nat.le_trans (below_size (by repeat (first | (with_reducible first | exact HB.out | apply below_alloc | apply pw_below_drewN | apply below_drew1 | refine below_set ?_ GE135.out) | exact HB.out))) hk), Kd.fresh' (Kd.R_lt (by (with_reducible repeat (first | apply Kd.R_alloc | apply Kd.R_drewN | apply Kd.R_drew)); exact HO147.out)) k_ hk⟩))
                        (case aO => exact (by (with_reducible repeat (first | apply Kd.R_alloc | apply Kd.R_drewN | apply Kd.R_drew)); exact Kd.R_mono HO141.out (fun _ hk => ⟨hk.1.1, hk.2⟩)))
                        (case aS => exact (below_size (by repeat (first | (with_reducible first | exact HB.out | apply below_alloc | apply pw_below_drewN | apply below_drew1 | refine below_set ?_ GE135.out) | exact HB.out))))
                        (case aL => have := LMc8.out; omega)
                        intro v143 w20 ho hb hg hat
                        rw [← Ny142.out] at ho
                        have n0_ := Aside0.mk (Kd.V_afterv (ok := (fun k_ => (P0_ k_ ∨ w.heap.size ≤ k_) ∧ some k_ ≠ (.slice Ao14 x5_1.length co14 : Value).ownBlock ∧ some k_ ≠ (v146 : Value).ownBlock ∧ k_ ≠ gb135)) (by (with_reducible repeat (first | apply Kd.V_alloc | apply Kd.V_drewN | apply Kd.V_drew)); exact Kd.V_mono HO_0.out (fun _ hk => ⟨⟨hk.1.1.1, ⟨hk.1.1.2.1, ⟨hk.2, hk.1.1.2.2⟩⟩⟩, hk.1.2⟩)) hg hat)
                        have n1_ := Aside0.mk (Kd.N_afterv (ok := (fun k_ => (P0_ k_ ∨ w.heap.size ≤ k_) ∧ some k_ ≠ (v146 : Value).ownBlock ∧ k_ ≠ gb135)) (by (with_reducible repeat (first | apply Kd.N_alloc | apply Kd.N_drewN | apply Kd.N_drew)); exact Kd.N_mono HO_5.out (fun _ hk => ⟨⟨hk.1.1.1, ⟨hk.2, hk.1.1.2⟩⟩, hk.1.2⟩)) hg hat)
                        have n2_ := Aside0.mk (blk_grown (g := gb135) (o := .cells #[.int .i64 a1_0, .slice (some ad151) l1_1.length c1_1] 24 (0, 0)) (by (with_reducible repeat (first | refine blk_drewN ?_ _ | refine blk_drew ?_ | refine blk_alloc ?_ _)); exact BK135.out) hg (Kd.R_ne HO141.out BK135.out (by decide)))
                        have n3_ := Aside0.mk (Kd.R_after (ok := (fun k_ => (w.heap.size ≤ k_))) (by (with_reducible repeat (first | apply Kd.R_alloc | apply Kd.R_drewN | apply Kd.R_drew)); exact Kd.R_mono HO147.out (fun _ hk => ⟨hk.1.1, hk.2⟩)) hg hat)
                        have n4_ := Aside0.mk (hb)
                        have n5_ := Aside0.mk (ho)
                        clear HO_0
                        clear HO_5
                        clear BK135
                        clear HO147
                        clear HB
                        clear HO141
                        have HO_0 := n0_
                        have HO_5 := n1_
                        have BK135 := n2_
                        have HO147 := n3_
                        have HB := n4_
                        have HO144 := n5_
                        clear n0_ n1_ n2_ n3_ n4_ n5_
                        clear ho hb hg hat
                        refine hK.out _ _ ⟨(blk_cell BK135.out 0).trans rfl, (blk_cell BK135.out 1).trans rfl, ((HB.out.cell (World.block_lt_of_cell? w _ hw151_0)).trans hw151_0), ((HB.out.cell (World.block_lt_of_cell? w _ hw151_1)).trans hw151_1)⟩ (fun hHeld => ?_)
                        clear hK K
                        refine norm_ (a' := ?_) ?_ ?_
                        rotate_left
                        · show Act.put _ (some 24) _ = _
                          simp only [Act.put, List.setIfInBounds_toArray, List.set_cons_zero, List.set_cons_succ, i64_w, i32_w]
                          rfl
                        exact norm_ (by simp only [putAll, Act.put, List.setIfInBounds_toArray, List.set_cons_zero, List.set_cons_succ]) (hCont (v140, v143, v146) _ ⟨hHeld, (by (with_reducible repeat (first | apply Kd.R_alloc | apply Kd.R_drewN | apply Kd.R_drew)); exact HO144.out), (by (with_reducible repeat (first | apply Kd.R_alloc | apply Kd.R_drewN | apply Kd.R_drew)); exact HO147.out), (by (with_reducible repeat (first | apply Kd.V_alloc | apply Kd.V_drewN | apply Kd.V_drew)); exact Kd.V_mono HO_0.out (fun _ hk => ⟨hk.1.1, ⟨hk.2, ⟨hk.1.2.2.1, ⟨hk.1.2.1, hk.1.2.2.2⟩⟩⟩⟩)), (by (with_reducible repeat (first | apply Kd.N_alloc | apply Kd.N_drewN | apply Kd.N_drew)); exact Kd.N_mono HO_5.out (fun _ hk => ⟨hk.1.1, ⟨hk.2, ⟨hk.1.2.1, hk.1.2.2⟩⟩⟩)), (by (with_reducible repeat (first | refine blk_drewN ?_ _ | refine blk_drew ?_ | refine blk_alloc ?_ _)); exact BK135.out), (by repeat (first | (with_reducible first | exact HB.out | apply below_alloc | apply pw_below_drewN | apply below_drew1 | refine below_set ?_ GE135.out) | exact HB.out))⟩)
                    · skip
                      refine Kd.R_lit_step (Kd.int .i64) _ 3 ?hg (N := 26) ?hd (xs := ([x6_1] : List Int)) (inner := [.int .i64 x6_1]) (ok := fun _ => True) (okp := fun _ => True) ?hr ?hp (fun _ hk => hk) trivial (Below.refl _ _) (Nat.le_refl _) (by simp) ?_; (case hd => rfl); (case hg => rfl); (case hr => first | (go_simp; done) | (go_simp; rfl)); (case hp => exact (Reps.one (show Kd.M (Kd.int .i64) _ _ _ x6_1 [.int .i64 x6_1] from rfl) (Reps.none _ _)))
                      intro v146 w16 ho17 hb hg_ hnew_
                      clear hg_ hnew_
                      (first | rw [← Ny145.out] at ho17 | (simp only [Int.reduceToNat] at ho17; rw [← Ny145.out] at ho17))
                      have n0_ := Aside0.mk (Kd.V_elder' (by (with_reducible repeat (first | apply Kd.V_alloc | apply Kd.V_drewN | apply Kd.V_drew)); exact HO_0.out) (Kd.R_base ho17) hb)
                      have n1_ := Aside0.mk (Kd.N_elder' (by (with_reducible repeat (first | apply Kd.N_alloc | apply Kd.N_drewN | apply Kd.N_drew)); exact HO_5.out) (Kd.R_base ho17) hb)
                      have n2_ := Aside0.mk (Kd.R_lower (Kd.R_newM (M := fun k_ => (w.heap.size ≤ k_)) ho17 (below_size (by repeat (first | (with_reducible first | exact HB.out | apply below_alloc | apply pw_below_drewN | apply below_drew1 | refine below_set ?_ GE135.out) | exact HB.out))) (fun k_ h_ => h_)) (below_size (by repeat (first | (with_reducible first | exact HB.out | apply below_alloc | apply pw_below_drewN | apply below_drew1 | refine below_set ?_ GE135.out) | exact HB.out))))
                      have n3_ := Aside0.mk (blk_below (g := gb135) (o := .cells #[.int .i64 a1_0, .slice (some ad151) l1_1.length c1_1] 24 (0, 0)) (by (with_reducible repeat (first | refine blk_drewN ?_ _ | refine blk_drew ?_ | refine blk_alloc ?_ _)); exact BK135.out) hb)
                      have n4_ := Aside0.mk (below_step (by repeat (first | (with_reducible first | exact HB.out | apply below_alloc | apply pw_below_drewN | apply below_drew1 | refine below_set ?_ GE135.out) | exact HB.out)) hb)
                      clear HO_0
                      clear HO_5
                      clear BK135
                      clear HB
                      have HO_0 := n0_
                      have HO_5 := n1_
                      have HO147 := n2_
                      have BK135 := n3_
                      have HB := n4_
                      clear n0_ n1_ n2_ n3_ n4_
                      clear hb ho17
                      refine hK.out _ _ ⟨(blk_cell BK135.out 0).trans rfl, (blk_cell BK135.out 1).trans rfl, ((HB.out.cell (World.block_lt_of_cell? w _ hw151_0)).trans hw151_0), ((HB.out.cell (World.block_lt_of_cell? w _ hw151_1)).trans hw151_1)⟩ (fun hHeld => ?_)
                      clear hK K
                      refine norm_ (a' := ?_) ?_ ?_
                      rotate_left
                      · show Act.put _ (some 26) _ = _
                        simp only [Act.put, List.setIfInBounds_toArray, List.set_cons_zero, List.set_cons_succ, i64_w, i32_w]
                        rfl
                      refine one_ (i := 1) (N := some 22) #[true, true, true, false, true, true, false, true, true, true, true, true, false, false, false] rfl rfl (one_of HT_.out (by kernel_rfl)) (by decide) (fun K hK => ?_)
                      refine Kd.R_lit_step (Kd.int .i64) _ 3 ?hg (N := 22) ?hd (xs := ([] : List Int)) (inner := []) (ok := fun _ => True) (okp := fun _ => True) ?hr ?hp (fun _ hk => hk) trivial (Below.refl _ _) (Nat.le_refl _) (by simp) ?_; (case hd => rfl); (case hg => rfl); (case hr => first | (go_simp; done) | (go_simp; rfl)); (case hp => exact (Reps.none _ _))
                      intro v140 w18 ho19 hb hg_ hnew_
                      clear hg_ hnew_
                      (first | rw [← Ny139.out] at ho19 | (simp only [Int.reduceToNat] at ho19; rw [← Ny139.out] at ho19))
                      have n0_ := Aside0.mk (Kd.V_elder' (by (with_reducible repeat (first | apply Kd.V_alloc | apply Kd.V_drewN | apply Kd.V_drew)); exact HO_0.out) (Kd.R_base ho19) hb)
                      have n1_ := Aside0.mk (Kd.N_elder' (by (with_reducible repeat (first | apply Kd.N_alloc | apply Kd.N_drewN | apply Kd.N_drew)); exact HO_5.out) (Kd.R_base ho19) hb)
                      have n2_ := Aside0.mk (Kd.R_elder' (by (with_reducible repeat (first | apply Kd.R_alloc | apply Kd.R_drewN | apply Kd.R_drew)); exact HO147.out) (Kd.R_base ho19) hb)
                      have n3_ := Aside0.mk (Kd.R_lower (Kd.R_new' (Kd.R_newM (M := fun k_ => (w.heap.size ≤ k_)) ho19 (below_size (by repeat (first | (with_reducible first | exact HB.out | apply below_alloc | apply pw_below_drewN | apply below_drew1 | refine below_set ?_ GE135.out) | exact HB.out))) (fun k_ h_ => h_)) (Kd.R_lt (by (with_reducible repeat (first | apply Kd.R_alloc | apply Kd.R_drewN | apply Kd.R_drew)); exact HO147.out))) (below_size (by repeat (first | (with_reducible first | exact HB.out | apply below_alloc | apply pw_below_drewN | apply below_drew1 | refine below_set ?_ GE135.out) | exact HB.out))))
                      have n4_ := Aside0.mk (blk_below (g := gb135) (o := .cells #[.int .i64 a1_0, .slice (some ad151) l1_1.length c1_1] 24 (0, 0)) (by (with_reducible repeat (first | refine blk_drewN ?_ _ | refine blk_drew ?_ | refine blk_alloc ?_ _)); exact BK135.out) hb)
                      have n5_ := Aside0.mk (below_step (by repeat (first | (with_reducible first | exact HB.out | apply below_alloc | apply pw_below_drewN | apply below_drew1 | refine below_set ?_ GE135.out) | exact HB.out)) hb)
                      clear HO_0
                      clear HO_5
                      clear HO147
                      clear BK135
                      clear HB
                      have HO_0 := n0_
                      have HO_5 := n1_
                      have HO147 := n2_
                      have HO141 := n3_
                      have BK135 := n4_
                      have HB := n5_
                      clear n0_ n1_ n2_ n3_ n4_ n5_
                      clear hb ho19
                      refine hK.out _ _ ⟨(blk_cell BK135.out 0).trans rfl, (blk_cell BK135.out 1).trans rfl, ((HB.out.cell (World.block_lt_of_cell? w _ hw151_0)).trans hw151_0), ((HB.out.cell (World.block_lt_of_cell? w _ hw151_1)).trans hw151_1)⟩ (fun hHeld => ?_)
                      clear hK K
                      refine norm_ (a' := ?_) ?_ ?_
                      rotate_left
                      · show Act.put _ (some 22) _ = _
                        simp only [Act.put, List.setIfInBounds_toArray, List.set_cons_zero, List.set_cons_succ, i64_w, i32_w]
                        rfl
                      refine one_ (i := 3) (N := some 24) #[true, true, true, true, true, true, false, true, true, true, true, true, false, false, false] rfl rfl (one_of HT_.out (by kernel_rfl)) (by decide) (fun K hK => ?_)
                      refine Kd.R_append_rows_step (Kd.int .i64) (w0 := w) w.heap.size (by rfl) (.tmp 22) (.tmp 23) 25 3 (.int .i64 0) 8 rfl Try.underlying25 info3 rfl (by decide) (by omega) v140 y139 l0 _ _ _ (fun k_ => (w.heap.size ≤ k_) ∧ some k_ ≠ (v146 : Value).ownBlock) (fun _ => False) rfl rfl ?aO ?aR (fun _ _ h => h) (fun _ h => h.elim) ?aF ?aB ?aS ?aL ?_
                      (case aR => repeat (first | exact (Kd.V_reads' HO_0.out).2.2 | (with_reducible refine Kd.C_alloc ?_ _) | (with_reducible refine Kd.C_drewN ?_ _) | (with_reducible refine Kd.C_drew ?_)))
                      (case aB => exact (by repeat (first | (with_reducible first | exact HB.out | apply below_alloc | apply pw_below_drewN | apply below_drew1 | refine below_set ?_ GE135.out) | exact HB.out)))
                      (case aF => exact (fun k_ hk => ⟨(Nat.le_trans (below_size (by repeat (first | (with_reducible first | exact HB.out | apply below_alloc | apply pw_below_drewN | apply below_drew1 | refine below_set ?_ GE135.out) | exact HB.out))) hk), Kd.fresh' (Kd.R_lt (by (with_reducible repeat (first | apply Kd.R_alloc | apply Kd.R_drewN | apply Kd.R_drew)); exact HO147.out)) k_ hk⟩))
                      (case aO => exact (by (with_reducible repeat (first | apply Kd.R_alloc | apply Kd.R_drewN | apply Kd.R_drew)); exact Kd.R_mono HO141.out (fun _ hk => ⟨hk.1.1, hk.2⟩)))
                      (case aS => exact (below_size (by repeat (first | (with_reducible first | exact HB.out | apply below_alloc | apply pw_below_drewN | apply below_drew1 | refine below_set ?_ GE135.out) | exact HB.out))))
                      (case aL => have := LMc8.out; omega)
                      intro v143 w20 ho hb hg hat
                      rw [← Ny142.out] at ho
                      have n0_ := Aside0.mk (Kd.V_afterv (ok := (fun k_ => (P0_ k_ ∨ w.heap.size ≤ k_) ∧ some k_ ≠ (.slice Ao14 x5_1.length co14 : Value).ownBlock ∧ some k_ ≠ (v146 : Value).ownBlock ∧ k_ ≠ gb135)) (by (with_reducible repeat (first | apply Kd.V_alloc | apply Kd.V_drewN | apply Kd.V_drew)); exact Kd.V_mono HO_0.out (fun _ hk => ⟨⟨hk.1.1.1, ⟨hk.1.1.2.1, ⟨hk.1.2, hk.1.1.2.2⟩⟩⟩, hk.2⟩)) hg hat)
                      have n1_ := Aside0.mk (Kd.N_afterv (ok := (fun k_ => (P0_ k_ ∨ w.heap.size ≤ k_) ∧ some k_ ≠ (v146 : Value).ownBlock ∧ k_ ≠ gb135)) (by (with_reducible repeat (first | apply Kd.N_alloc | apply Kd.N_drewN | apply Kd.N_drew)); exact Kd.N_mono HO_5.out (fun _ hk => ⟨⟨hk.1.1.1, ⟨hk.1.2, hk.1.1.2⟩⟩, hk.2⟩)) hg hat)
                      have n2_ := Aside0.mk (blk_grown (g := gb135) (o := .cells #[.int .i64 a1_0, .slice (some ad151) l1_1.length c1_1] 24 (0, 0)) (by (with_reducible repeat (first | refine blk_drewN ?_ _ | refine blk_drew ?_ | refine blk_alloc ?_ _)); exact BK135.out) hg (Kd.R_ne HO141.out BK135.out (by decide)))
                      have n3_ := Aside0.mk (Kd.R_after (ok := (fun k_ => (w.heap.size ≤ k_))) (by (with_reducible repeat (first | apply Kd.R_alloc | apply Kd.R_drewN | apply Kd.R_drew)); exact Kd.R_mono HO147.out (fun _ hk => ⟨hk.1.1, hk.2⟩)) hg hat)
                      have n4_ := Aside0.mk (hb)
                      have n5_ := Aside0.mk (ho)
                      clear HO_0
                      clear HO_5
                      clear BK135
                      clear HO147
                      clear HB
                      clear HO141
                      have HO_0 := n0_
                      have HO_5 := n1_
                      have BK135 := n2_
                      have HO147 := n3_
                      have HB := n4_
                      have HO144 := n5_
                      clear n0_ n1_ n2_ n3_ n4_ n5_
                      clear ho hb hg hat
                      refine hK.out _ _ ⟨(blk_cell BK135.out 0).trans rfl, (blk_cell BK135.out 1).trans rfl, ((HB.out.cell (World.block_lt_of_cell? w _ hw151_0)).trans hw151_0), ((HB.out.cell (World.block_lt_of_cell? w _ hw151_1)).trans hw151_1)⟩ (fun hHeld => ?_)
                      clear hK K
                      refine norm_ (a' := ?_) ?_ ?_
                      rotate_left
                      · show Act.put _ (some 24) _ = _
                        simp only [Act.put, List.setIfInBounds_toArray, List.set_cons_zero, List.set_cons_succ, i64_w, i32_w]
                        rfl
                      exact norm_ (by simp only [putAll, Act.put, List.setIfInBounds_toArray, List.set_cons_zero, List.set_cons_succ]) (hCont (v140, v143, v146) _ ⟨hHeld, (by (with_reducible repeat (first | apply Kd.R_alloc | apply Kd.R_drewN | apply Kd.R_drew)); exact HO144.out), (by (with_reducible repeat (first | apply Kd.R_alloc | apply Kd.R_drewN | apply Kd.R_drew)); exact HO147.out), (by (with_reducible repeat (first | apply Kd.V_alloc | apply Kd.V_drewN | apply Kd.V_drew)); exact Kd.V_mono HO_0.out (fun _ hk => ⟨hk.1.1, ⟨hk.2, ⟨hk.1.2.2.1, ⟨hk.1.2.1, hk.1.2.2.2⟩⟩⟩⟩)), (by (with_reducible repeat (first | apply Kd.N_alloc | apply Kd.N_drewN | apply Kd.N_drew)); exact Kd.N_mono HO_5.out (fun _ hk => ⟨hk.1.1, ⟨hk.2, ⟨hk.1.2.1, hk.1.2.2⟩⟩⟩)), (by (with_reducible repeat (first | refine blk_drewN ?_ _ | refine blk_drew ?_ | refine blk_alloc ?_ _)); exact BK135.out), (by repeat (first | (with_reducible first | exact HB.out | apply below_alloc | apply pw_below_drewN | apply below_drew1 | refine below_set ?_ GE135.out) | exact HB.out))⟩)
                  rintro ⟨v140, v143, v146⟩ w21 ⟨hS_, h0_, h1_, h2_, h3_, h4_, h5_⟩
                  have n0_ : Aside0 (Kd.R (Kd.int .i64) 3 w21 w.heap.size (fun k_ => (w.heap.size ≤ k_) ∧ some k_ ≠ (v146 : Value).ownBlock) v143 y142) := ⟨h0_⟩
                  have n1_ : Aside0 (Kd.R (Kd.int .i64) 3 w21 w.heap.size (fun k_ => (w.heap.size ≤ k_) ∧ some k_ ≠ (v143 : Value).ownBlock) v146 y145) := ⟨h1_⟩
                  have n2_ : Aside0 (Kd.V (Kd.int .i64) 3 w21 w.heap.size (fun k_ => (P0_ k_ ∨ w.heap.size ≤ k_) ∧ some k_ ≠ (v143 : Value).ownBlock ∧ some k_ ≠ (v146 : Value).ownBlock ∧ some k_ ≠ (.slice Ao14 x5_1.length co14 : Value).ownBlock ∧ k_ ≠ gb135) (.slice A0 l0.length c0) l0) := ⟨h2_⟩
                  have n3_ : Aside0 (Kd.N (Kd.slice 3 (Kd.int .i64)) 25 w21 w.heap.size (fun k_ => (P0_ k_ ∨ w.heap.size ≤ k_) ∧ some k_ ≠ (v143 : Value).ownBlock ∧ some k_ ≠ (v146 : Value).ownBlock ∧ k_ ≠ gb135) (.slice Ao14 x5_1.length co14) x5_1) := ⟨h3_⟩
                  have n4_ : Aside0 (w21.heap[gb135]? = some (.cells #[.int .i64 a1_0, .slice (some ad151) l1_1.length c1_1] 24 (0, 0))) := ⟨h4_⟩
                  have n5_ : Aside0 (Below w.heap.size w w21) := ⟨h5_⟩
                  clear HO_0
                  clear HO_5
                  clear BK135
                  clear HB
                  clear h0_ h1_ h2_ h3_ h4_ h5_
                  have HO144 := n0_
                  have HO147 := n1_
                  have HO_0 := n2_
                  have HO_5 := n3_
                  have BK135 := n4_
                  have HB := n5_
                  clear n0_ n1_ n2_ n3_ n4_ n5_
                  have hHeld : w21.cell? ⟨gb135, 0, none⟩ = some (.int .i64 a1_0) ∧ w21.cell? ⟨gb135, 1, none⟩ = some (.slice (some ad151) l1_1.length c1_1) ∧ w21.cell? (ad151.add ((x6_1).toNat * 2)) = some (.int .i64 ((rd_T24 l1_1 x6_1).f0)) ∧ w21.cell? ⟨(ad151.add ((x6_1).toNat * 2)).block, (ad151.add ((x6_1).toNat * 2)).off + 1, none⟩ = some (.slice A151_1 ((rd_T24 l1_1 x6_1).f1).length c151_1) := hS_
                  obtain ⟨Ao23, co23, eo23⟩ := Kd.R_slice HO147.out
                  (first | subst eo23 | (injection eo23 with f1_ f2_ f3_; have f4_ := f1_.symm; have f5_ := f3_.symm; clear f1_ f2_ f3_; subst f4_; subst f5_))
                  refine norm_ (a' := ?_) ?_ ?_
                  rotate_left
                  · simp only [putAll, Act.put, List.setIfInBounds_toArray, List.set_cons_zero, List.set_cons_succ]
                    rfl
                  refine one_ (i := 6) (N := some 27) #[true, true, true, true, true, true, true, true, true, true, true, true, false, false, false] rfl rfl (one_of HT_.out (by kernel_rfl)) (by decide) (fun K hK => ?_)
                  refine Kd.R_append_rows_step (Kd.int .i64) (w0 := w) w.heap.size (by rfl) (.tmp 24) (.tmp 26) 25 3 (.int .i64 0) 8 rfl Try.underlying25 info3 rfl (by decide) (by omega) v143 y142 y145 _ _ _ (fun k_ => (w.heap.size ≤ k_) ∧ some k_ ≠ (.slice Ao23 y145.length co23 : Value).ownBlock) (fun _ => False) rfl rfl ?aO ?aR (fun _ _ h => h) (fun _ h => h.elim) ?aF ?aB ?aS ?aL ?_
                  (case aR => repeat (first | exact (Kd.R_reads' HO147.out).2.2 | (with_reducible refine Kd.C_alloc ?_ _) | (with_reducible refine Kd.C_drewN ?_ _) | (with_reducible refine Kd.C_drew ?_)))
                  (case aB => exact (by repeat (first | (with_reducible first | exact HB.out | apply below_alloc | apply pw_below_drewN | apply below_drew1 | refine below_set ?_ GE135.out) | exact HB.out)))
                  (case aF => exact (fun k_ hk => ⟨(Nat.le_trans (below_size (by repeat (first | (with_reducible first | exact HB.out | apply below_alloc | apply pw_below_drewN | apply below_drew1 | refine below_set ?_ GE135.out) | exact HB.out))) hk), Kd.fresh' (Kd.R_lt (by (with_reducible repeat (first | apply Kd.R_alloc | apply Kd.R_drewN | apply Kd.R_drew)); exact HO147.out)) k_ hk⟩))
                  (case aO => exact (by (with_reducible repeat (first | apply Kd.R_alloc | apply Kd.R_drewN | apply Kd.R_drew)); exact HO144.out))
                  (case aS => exact (below_size (by repeat (first | (with_reducible first | exact HB.out | apply below_alloc | apply pw_below_drewN | apply below_drew1 | refine below_set ?_ GE135.out) | exact HB.out))))
                  (case aL => have := LMc9.out; omega)
                  intro v149 w22 ho hb hg hat
                  rw [← Ny148.out] at ho
                  have n0_ := Aside0.mk (Kd.V_afterv (ok := (fun k_ => (P0_ k_ ∨ w.heap.size ≤ k_) ∧ some k_ ≠ (.slice Ao14 x5_1.length co14 : Value).ownBlock ∧ some k_ ≠ (.slice Ao23 y145.length co23 : Value).ownBlock ∧ k_ ≠ gb135)) (by (with_reducible repeat (first | apply Kd.V_alloc | apply Kd.V_drewN | apply Kd.V_drew)); exact Kd.V_mono HO_0.out (fun _ hk => ⟨⟨hk.1, ⟨hk.2.2.2.1, ⟨hk.2.2.1, hk.2.2.2.2⟩⟩⟩, hk.2.1⟩)) hg hat)
                  have n1_ := Aside0.mk (Kd.N_afterv (ok := (fun k_ => (P0_ k_ ∨ w.heap.size ≤ k_) ∧ some k_ ≠ (.slice Ao23 y145.length co23 : Value).ownBlock ∧ k_ ≠ gb135)) (by (with_reducible repeat (first | apply Kd.N_alloc | apply Kd.N_drewN | apply Kd.N_drew)); exact Kd.N_mono HO_5.out (fun _ hk => ⟨⟨hk.1, ⟨hk.2.2.1, hk.2.2.2⟩⟩, hk.2.1⟩)) hg hat)
                  have n2_ := Aside0.mk (blk_grown (g := gb135) (o := .cells #[.int .i64 a1_0, .slice (some ad151) l1_1.length c1_1] 24 (0, 0)) (by (with_reducible repeat (first | refine blk_drewN ?_ _ | refine blk_drew ?_ | refine blk_alloc ?_ _)); exact BK135.out) hg (Kd.R_ne HO144.out BK135.out (by decide)))
                  have n3_ := Aside0.mk (Kd.R_after (ok := (fun k_ => (w.heap.size ≤ k_))) (by (with_reducible repeat (first | apply Kd.R_alloc | apply Kd.R_drewN | apply Kd.R_drew)); exact HO147.out) hg hat)
                  have n4_ := Aside0.mk (hb)
                  have n5_ := Aside0.mk (ho)
                  clear HO_0
                  clear HO_5
                  clear BK135
                  clear HO147
                  clear HB
                  clear HO144
                  have HO_0 := n0_
                  have HO_5 := n1_
                  have BK135 := n2_
                  have HO147 := n3_
                  have HB := n4_
                  have HO150 := n5_
                  clear n0_ n1_ n2_ n3_ n4_ n5_
                  clear ho hb hg hat
                  obtain ⟨Ao24, co24, eo24⟩ := Kd.R_slice HO150.out
                  (first | subst eo24 | (injection eo24 with f1_ f2_ f3_; have f4_ := f1_.symm; have f5_ := f3_.symm; clear f1_ f2_ f3_; subst f4_; subst f5_))
                  refine hK.out _ _ ⟨(blk_cell BK135.out 0).trans rfl, (blk_cell BK135.out 1).trans rfl, ((HB.out.cell (World.block_lt_of_cell? w _ hw151_0)).trans hw151_0), ((HB.out.cell (World.block_lt_of_cell? w _ hw151_1)).trans hw151_1)⟩ (fun hHeld => ?_)
                  clear hK K
                  refine norm_ (a' := ?_) ?_ ?_
                  rotate_left
                  · show Act.put _ (some 27) _ = _
                    simp only [Act.put, List.setIfInBounds_toArray, List.set_cons_zero, List.set_cons_succ, i64_w, i32_w]
                    rfl
                  refine one_ (i := 12) (N := some 33) #[true, true, true, true, true, true, true, true, true, true, true, true, true, false, false] rfl rfl (one_of HT_.out (by kernel_rfl)) (by decide) (fun K hK => ?_)
                  refine goes_ Try.func25 (by kernel_rfl) rfl #[.slice Ao24 y148.length co24, .agg #[.int .i64 ((rd_T24 l1_1 x6_1).f0), .slice A151_1 ((rd_T24 l1_1 x6_1).f1).length c151_1]] (by rfl) rfl rfl (by (try simp only [List.map_toArray, List.map_cons, List.map_nil]); first | done | rfl | (simp only [List.length_drop, List.length_take]; rfl)) ?_
                  with_reducible refine (ih k1 (by have := HK1.out; omega) (fun k_ => some k_ = (.slice Ao24 y148.length co24 : Value).ownBlock) _ _ y148 ((rd_T24 l1_1 x6_1).f0) _ _ ((rd_T24 l1_1 x6_1).f1) t152 _ ?side1 ?side2 ?side3 A11.out).mono ?_
                  (case side1 => exact Kd.R_V (Kd.R_tight rfl (Kd.R_types (Kd.R_apart' (HO150.out) (Kd.N_typed HO_5.out) (by decide)) BK135.out (by decide))))
                  (case side2 => repeat (first | exact (Kd.C_below HR151_1.out HB.out) | (with_reducible refine Kd.C_alloc ?_ _) | (with_reducible refine Kd.C_drewN ?_ _) | (with_reducible refine Kd.C_drew ?_)))
                  (case side3 => exact HC151_1.out)
                  rintro e w25 ⟨v153, rfl, ho0, hb⟩
                  refine ⟨_, rfl, ?_⟩
                  have n0_ := Aside0.mk (Kd.V_elder' (by (with_reducible repeat (first | apply Kd.V_alloc | apply Kd.V_drewN | apply Kd.V_drew)); exact HO_0.out) (Kd.N_base ho0) hb)
                  have n1_ := Aside0.mk (Kd.N_elder' (by (with_reducible repeat (first | apply Kd.N_alloc | apply Kd.N_drewN | apply Kd.N_drew)); exact HO_5.out) (Kd.N_base ho0) hb)
                  have n2_ := Aside0.mk (Kd.R_below (by (with_reducible repeat (first | apply Kd.R_alloc | apply Kd.R_drewN | apply Kd.R_drew)); exact HO147.out) hb)
                  have n3_ := Aside0.mk (Kd.R_below (by (with_reducible repeat (first | apply Kd.R_alloc | apply Kd.R_drewN | apply Kd.R_drew)); exact HO150.out) hb)
                  have n4_ := Aside0.mk (Kd.N_lower (Kd.N_mono (ok' := fun k_ => (P0_ k_ ∨ w.heap.size ≤ k_) ∧ some k_ ≠ (.slice Ao14 x5_1.length co14 : Value).ownBlock ∧ some k_ ≠ (.slice Ao23 y145.length co23 : Value).ownBlock ∧ k_ ≠ gb135) ho0 (fun k_ hk_ => ⟨Or.elim hk_ (fun hs_ => (.inr (((Kd.R_types (Kd.R_apart' (HO150.out) (Kd.N_typed HO_5.out) (by decide)) BK135.out (by decide)).1 k_ hs_.symm).1.1.1))) (fun hn_ => (.inr (Nat.le_trans (below_size (by repeat (first | (with_reducible first | exact HB.out | apply below_alloc | apply pw_below_drewN | apply below_drew1 | refine below_set ?_ GE135.out) | exact HB.out))) hn_))), Or.elim hk_ (fun hs_ => ((Kd.R_types (Kd.R_apart' (HO150.out) (Kd.N_typed HO_5.out) (by decide)) BK135.out (by decide)).1 k_ hs_.symm).1.2) (fun hn_ => (Kd.fresh' (Kd.N_lt (by (with_reducible repeat (first | apply Kd.N_alloc | apply Kd.N_drewN | apply Kd.N_drew)); exact HO_5.out)) k_ hn_)), Or.elim hk_ (fun hs_ => ((Kd.R_types (Kd.R_apart' (HO150.out) (Kd.N_typed HO_5.out) (by decide)) BK135.out (by decide)).1 k_ hs_.symm).1.1.2) (fun hn_ => (Kd.fresh' (Kd.R_lt (by (with_reducible repeat (first | apply Kd.R_alloc | apply Kd.R_drewN | apply Kd.R_drew)); exact HO147.out)) k_ hn_)), Or.elim hk_ (fun hs_ => ((Kd.R_types (Kd.R_apart' (HO150.out) (Kd.N_typed HO_5.out) (by decide)) BK135.out (by decide)).1 k_ hs_.symm).2) (fun hn_ => (Kd.freshB (g := gb135) (o := .cells #[.int .i64 a1_0, .slice (some ad151) l1_1.length c1_1] 24 (0, 0)) (by (with_reducible repeat (first | refine blk_drewN ?_ _ | refine blk_drew ?_ | refine blk_alloc ?_ _)); exact BK135.out) k_ hn_))⟩)) (below_size (by repeat (first | (with_reducible first | exact HB.out | apply below_alloc | apply pw_below_drewN | apply below_drew1 | refine below_set ?_ GE135.out) | exact HB.out))))
                  have n5_ := Aside0.mk (blk_below (g := gb135) (o := .cells #[.int .i64 a1_0, .slice (some ad151) l1_1.length c1_1] 24 (0, 0)) (by (with_reducible repeat (first | refine blk_drewN ?_ _ | refine blk_drew ?_ | refine blk_alloc ?_ _)); exact BK135.out) hb)
                  have n6_ := Aside0.mk (below_step (by repeat (first | (with_reducible first | exact HB.out | apply below_alloc | apply pw_below_drewN | apply below_drew1 | refine below_set ?_ GE135.out) | exact HB.out)) hb)
                  clear HO_0
                  clear HO_5
                  clear HO147
                  clear HO150
                  clear BK135
                  clear HB
                  have HO_0 := n0_
                  have HO_5 := n1_
                  have HO147 := n2_
                  have HO150 := n3_
                  have HO154 := n4_
                  have BK135 := n5_
                  have HB := n6_
                  clear n0_ n1_ n2_ n3_ n4_ n5_ n6_
                  (try clear hb)
                  (try clear hb2)
                  (try clear hk)
                  (try clear hi)
                  (try clear ho0)
                  obtain ⟨Ao27, co27, eo27⟩ := Kd.N_slice HO154.out
                  (first | subst eo27 | (injection eo27 with f1_ f2_ f3_; have f4_ := f1_.symm; have f5_ := f3_.symm; clear f1_ f2_ f3_; subst f4_; subst f5_))
                  refine hK.out _ _ ⟨(blk_cell BK135.out 0).trans rfl, (blk_cell BK135.out 1).trans rfl, ((HB.out.cell (World.block_lt_of_cell? w _ hw151_0)).trans hw151_0), ((HB.out.cell (World.block_lt_of_cell? w _ hw151_1)).trans hw151_1)⟩ (fun hHeld => ?_)
                  clear hK K
                  refine norm_ (a' := ?_) ?_ ?_
                  rotate_left
                  · show Act.put _ (some 33) _ = _
                    simp only [Act.put, List.setIfInBounds_toArray, List.set_cons_zero, List.set_cons_succ, i64_w, i32_w]
                    rfl
                  refine one_ (i := 13) (N := some 34) #[true, true, true, true, true, true, true, true, true, true, true, true, true, true, false] rfl rfl (one_of HT_.out (by kernel_rfl)) (by decide) (fun K hK => ?_)
                  refine Kd.N_append_rows_step (Kd.slice 3 (Kd.int .i64)) (w0 := w) w.heap.size (by rfl) (.tmp 21) (.tmp 33) 32 25 (.slice none 0 0) 24 rfl Try.underlying32 info25 rfl (by decide) (by omega) (.slice Ao14 x5_1.length co14) x5_1 t152 _ _ _ (fun k_ => (P0_ k_ ∨ w.heap.size ≤ k_) ∧ some k_ ≠ (.slice Ao23 y145.length co23 : Value).ownBlock ∧ k_ ≠ gb135) (fun k_ => ((fun k_ => (P0_ k_ ∨ w.heap.size ≤ k_) ∧ some k_ ≠ (.slice Ao23 y145.length co23 : Value).ownBlock ∧ k_ ≠ gb135)) k_ ∧ some k_ ≠ (.slice Ao14 x5_1.length co14 : Value).ownBlock) rfl rfl ?aO ?aR (fun _ hk => hk) ?aF ?aB ?aS ?aL ?_
                  (case aR => exact (by skip; exact Kd.N_F (Kd.N_mono (ok' := (fun k_ => ((fun k_ => (P0_ k_ ∨ w.heap.size ≤ k_) ∧ some k_ ≠ (.slice Ao23 y145.length co23 : Value).ownBlock ∧ k_ ≠ gb135)) k_ ∧ some k_ ≠ (.slice Ao14 x5_1.length co14 : Value).ownBlock)) (HO154.out) (fun k_ hk => ⟨⟨hk.1, ⟨hk.2.2.1, hk.2.2.2⟩⟩, hk.2.1⟩))))
                  (case aB => exact (by repeat (first | (with_reducible first | exact HB.out | apply below_alloc | apply pw_below_drewN | apply below_drew1 | refine below_set ?_ GE135.out) | exact HB.out)))
                  (case aF => exact (fun k_ hk => ⟨(.inr (Nat.le_trans (below_size (by repeat (first | (with_reducible first | exact HB.out | apply below_alloc | apply pw_below_drewN | apply below_drew1 | refine below_set ?_ GE135.out) | exact HB.out))) hk)), Kd.fresh' (Kd.R_lt (by (with_reducible repeat (first | apply Kd.R_alloc | apply Kd.R_drewN | apply Kd.R_drew)); exact HO147.out)) k_ hk, Kd.freshB (g := gb135) (o := .cells #[.int .i64 a1_0, .slice (some ad151) l1_1.length c1_1] 24 (0, 0)) (by (with_reducible repeat (first | refine blk_drewN ?_ _ | refine blk_drew ?_ | refine blk_alloc ?_ _)); exact BK135.out) k_ hk⟩))
                  (case aO => exact (by (with_reducible repeat (first | apply Kd.N_alloc | apply Kd.N_drewN | apply Kd.N_drew)); exact Kd.N_mono HO_5.out (fun _ hk => ⟨hk.1.1.1, ⟨hk.1.1.2.1, hk.1.1.2.2⟩⟩)))
                  (case aS => exact (below_size (by repeat (first | (with_reducible first | exact HB.out | apply below_alloc | apply pw_below_drewN | apply below_drew1 | refine below_set ?_ GE135.out) | exact HB.out))))
                  (case aL => have := LMc12.out; omega)
                  intro v156 w26 ho hb hg hat
                  rw [← Ny155.out] at ho
                  have n0_ := Aside0.mk (Kd.V_afterv (ok := (fun k_ => (P0_ k_ ∨ w.heap.size ≤ k_) ∧ some k_ ≠ (.slice Ao23 y145.length co23 : Value).ownBlock ∧ some k_ ≠ (.slice Ao24 y148.length co24 : Value).ownBlock ∧ some k_ ≠ (.slice Ao27 t152.length co27 : Value).ownBlock ∧ k_ ≠ gb135)) (by (with_reducible repeat (first | apply Kd.V_alloc | apply Kd.V_drewN | apply Kd.V_drew)); exact Kd.V_mono HO_0.out (fun _ hk => ⟨⟨hk.1.1.1, ⟨hk.1.1.2.2.1, ⟨hk.1.2, ⟨hk.2, hk.1.1.2.2.2⟩⟩⟩⟩, hk.1.1.2.1⟩)) hg hat)
                  have n1_ := Aside0.mk (blk_grown (g := gb135) (o := .cells #[.int .i64 a1_0, .slice (some ad151) l1_1.length c1_1] 24 (0, 0)) (by (with_reducible repeat (first | refine blk_drewN ?_ _ | refine blk_drew ?_ | refine blk_alloc ?_ _)); exact BK135.out) hg (Kd.N_ne HO_5.out BK135.out (by decide)))
                  have n2_ := Aside0.mk (Kd.R_over' (by (with_reducible repeat (first | apply Kd.R_alloc | apply Kd.R_drewN | apply Kd.R_drew)); exact HO147.out) (Kd.N_typed (by (with_reducible repeat (first | apply Kd.N_alloc | apply Kd.N_drewN | apply Kd.N_drew)); exact HO_5.out)) (by decide) hg)
                  have n3_ := Aside0.mk (Kd.R_over' (by (with_reducible repeat (first | apply Kd.R_alloc | apply Kd.R_drewN | apply Kd.R_drew)); exact HO150.out) (Kd.N_typed (by (with_reducible repeat (first | apply Kd.N_alloc | apply Kd.N_drewN | apply Kd.N_drew)); exact HO_5.out)) (by decide) hg)
                  have n4_ := Aside0.mk (Kd.N_afterv (ok := (fun k_ => (P0_ k_ ∨ w.heap.size ≤ k_) ∧ some k_ ≠ (.slice Ao23 y145.length co23 : Value).ownBlock ∧ k_ ≠ gb135)) (by (with_reducible repeat (first | apply Kd.N_alloc | apply Kd.N_drewN | apply Kd.N_drew)); exact Kd.N_mono HO154.out (fun _ hk => ⟨⟨hk.1, ⟨hk.2.2.1, hk.2.2.2⟩⟩, hk.2.1⟩)) hg hat)
                  have n5_ := Aside0.mk (hb)
                  have n6_ := Aside0.mk (ho)
                  clear HO_0
                  clear BK135
                  clear HO147
                  clear HO150
                  clear HO154
                  clear HB
                  clear HO_5
                  have HO_0 := n0_
                  have BK135 := n1_
                  have HO147 := n2_
                  have HO150 := n3_
                  have HO154 := n4_
                  have HB := n5_
                  have HO157 := n6_
                  clear n0_ n1_ n2_ n3_ n4_ n5_ n6_
                  clear ho hb hg hat
                  refine hK.out _ _ ⟨(blk_cell BK135.out 0).trans rfl, (blk_cell BK135.out 1).trans rfl, ((HB.out.cell (World.block_lt_of_cell? w _ hw151_0)).trans hw151_0), ((HB.out.cell (World.block_lt_of_cell? w _ hw151_1)).trans hw151_1)⟩ (fun hHeld => ?_)
                  clear hK K
                  refine norm_ (a' := ?_) ?_ ?_
                  rotate_left
                  · show Act.put _ (some 34) _ = _
                    simp only [Act.put, List.setIfInBounds_toArray, List.set_cons_zero, List.set_cons_succ, i64_w, i32_w]
                    rfl
                  refine pure_ (i := 14) (N := some 5) (v := ?_) (a' := ?_) #[true, true, true, true, true, true, true, true, true, true, true, true, true, true, true] rfl rfl (any_of HT_.out (by kernel_rfl)) (fun _ _ _ h => h) (Or.inl ⟨by rfl, ?_⟩) ?_ ?_
                  rotate_left
                  · intro w'
                    go_simp
                    with_reducible rfl
                  rotate_left
                  · simp only [Act.put, List.setIfInBounds_toArray, List.set_cons_zero, List.set_cons_succ, i64_w, i32_w]
                    rfl
                  refine done_ (done_of HT_.out (by kernel_rfl)) ?_
                  try go_wp2
                  go_roundg k1
                  case measure => have := HK1.out; omega
                  case rel => exact ⟨(y155), (wrap64 (x6_1 + 1)), (by first | rfl | (simp; done) | (simp [*]; done)), H', ⟨by have := HK1.out; omega⟩, ⟨by (with_reducible repeat (first | apply Kd.V_alloc | apply Kd.V_drewN | apply Kd.V_drew)); exact Kd.V_mono HO_0.out (fun _ hk => ⟨hk.1.1, ⟨hk.2, hk.1.2.2.2.2⟩⟩)⟩, ⟨by (with_reducible repeat (first | apply Kd.N_alloc | apply Kd.N_drewN | apply Kd.N_drew)); exact Kd.N_mono HO157.out (fun _ hk => ⟨hk.1, hk.2.2⟩)⟩, ⟨by (with_reducible repeat (first | refine blk_drewN ?_ _ | refine blk_drew ?_ | refine blk_alloc ?_ _)); exact BK135.out⟩, ⟨by repeat (first | (with_reducible first | exact HB.out | apply below_alloc | apply pw_below_drewN | apply below_drew1 | refine below_set ?_ GE135.out) | exact HB.out)⟩⟩
                · rw [if_neg c12] at H
                  exact absurd H (by simp)
              · rw [if_neg c10] at H
                exact absurd H (by simp)
            · rw [if_neg c9] at H
              exact absurd H (by simp)
          · rw [if_neg c8] at H
            exact absurd H (by simp)
        · rw [if_neg c7] at H
          have c7b0 : decide (x6_1 < (l1_1.length : Int)) = false := decide_eq_false c7
          clear c7
          obtain rfl := Option.some.inj H
          have hcz28_0 : wr.cell? ⟨gb135, 0, none⟩ = some (.int .i64 a1_0) := (blk_cell BK135.out 0).trans rfl
          have hcz28_1 : wr.cell? ⟨gb135, 1, none⟩ = some (.slice A1_1 l1_1.length c1_1) := (blk_cell BK135.out 1).trans rfl
          have hfz28_0 := blk_frozen BK135.out 0
          have hfz28_1 := blk_frozen BK135.out 1
          go_wp2
          go_ret
          exact ⟨_, by first | rfl | (simp [errW_none, errW_some] <;> rfl) | (simp [*, errW_none, errW_some] <;> rfl), by (with_reducible repeat (first | apply Kd.N_alloc | apply Kd.N_drewN | apply Kd.N_drew)); exact Kd.N_mono HO_5.out (fun _ hk => hk.1), by repeat (first | (with_reducible first | exact HB.out | apply below_alloc | apply pw_below_drewN | apply below_drew1 | refine below_set ?_ GE135.out) | exact HB.out)⟩
      · rw [if_neg c6] at H
        have c6b0 : decide (0 ≤ a1_0) = false := decide_eq_false c6
        clear c6
        obtain rfl := Option.some.inj H
        have hcz29_0 : wr.cell? ⟨gb135, 0, none⟩ = some (.int .i64 a1_0) := (blk_cell BK135.out 0).trans rfl
        have hcz29_1 : wr.cell? ⟨gb135, 1, none⟩ = some (.slice A1_1 l1_1.length c1_1) := (blk_cell BK135.out 1).trans rfl
        have hfz29_0 := blk_frozen BK135.out 0
        have hfz29_1 := blk_frozen BK135.out 1
        go_wp2
        go_ret
        exact ⟨_, by first | rfl | (simp [errW_none, errW_some] <;> rfl) | (simp [*, errW_none, errW_some] <;> rfl), by (with_reducible repeat (first | apply Kd.N_alloc | apply Kd.N_drewN | apply Kd.N_drew)); exact Kd.N_mono HO_5.out (fun _ hk => hk.1), by repeat (first | (with_reducible first | exact HB.out | apply below_alloc | apply pw_below_drewN | apply below_drew1 | refine below_set ?_ GE135.out) | exact HB.out)⟩
end Go.Proofs.Ytpfddihcikiofaa.P
end

section
namespace Go.Proofs.Ytpfddihcikiofaa.P
open Go.RowKit Go.Proofs.YtpfddihcikiofaaW.PrintWords Go.Proofs.YtpfddihcikiofaaW.PrintLast Go.Proofs.YtpfddihcikiofaaW.PrintMore
attribute [local go_sem] max2_int min2_int max_two min_two max_three min_three max_four min_four
set_option linter.unusedVariables false
set_option linter.unusedSimpArgs false
mutual
def soritesref06_SamePlaces.l0 : Nat → List (List Int) → List (List Int) → Int → Option (Bool)
  | 0, _, _, _ => none
  | k + 1, x0, x1, x5 => if x5 < (x0.length : Int) then (if 0 ≤ x5 then (if x5 < (x1.length : Int) then (if ((rd_L2 x0 x5).length : Int) = ((rd_L2 x1 x5).length : Int) then (soritesref06_SamePlaces.l1 k x0 x1 x5 0) else (some false)) else (none)) else (none)) else (some true)
def soritesref06_SamePlaces.l1 : Nat → List (List Int) → List (List Int) → Int → Int → Option (Bool)
  | 0, _, _, _, _ => none
  | k + 1, x0, x1, x5, x6 => if 0 ≤ x5 then (if x5 < (x0.length : Int) then (if x6 < ((rd_L2 x0 x5).length : Int) then (if 0 ≤ x6 then (if x5 < (x1.length : Int) then (if x6 < ((rd_L2 x1 x5).length : Int) then (if (rd (rd_L2 x0 x5) x6) = (rd (rd_L2 x1 x5) x6) then (soritesref06_SamePlaces.l1 k x0 x1 x5 (wrap64 (x6 + 1))) else (some false)) else (none)) else (none)) else (none)) else (soritesref06_SamePlaces.l0 k x0 x1 (wrap64 (x5 + 1)))) else (none)) else (none)
end
def soritesref06_SamePlaces.f (k : Nat) (l0 : List (List Int)) (l1 : List (List Int)) : Option (Bool) := if (l0.length : Int) = (l1.length : Int) then (soritesref06_SamePlaces.l0 k l0 l1 0) else (some false)
set_option maxHeartbeats 8000000 in
set_option maxRecDepth 100000 in
theorem soritesref06_SamePlaces.calls (k : Nat) (A0 : Option Addr) (c0 : Nat) (l0 : List (List Int)) (A1 : Option Addr) (c1 : Nat) (l1 : List (List Int)) (r : Bool) (w : World) (hr0 : Kd.C (Kd.slice 3 (Kd.int .i64)) w A0 l0.length l0) (hc0 : l0.length ≤ c0) (hr1 : Kd.C (Kd.slice 3 (Kd.int .i64)) w A1 l1.length l1) (hc1 : l1.length ≤ c1) (h : soritesref06_SamePlaces.f k l0 l1 = some r) :
    Calls Try.prog 24 #[.slice A0 l0.length c0, .slice A1 l1.length c1] w fun e w' => e = .returned (.bool r) ∧ Drawn0 w w' := by
  have HR0 := Aside0.mk hr0
  have HC0 := Aside0.mk hc0
  clear hr0 hc0
  have HR1 := Aside0.mk hr1
  have HC1 := Aside0.mk hc1
  clear hr1 hc1
  have H : (if (l0.length : Int) = (l1.length : Int) then (soritesref06_SamePlaces.l0 k l0 l1 0) else (some false)) = some r := h
  clear h
  by_cases c3 : (l0.length : Int) = (l1.length : Int)
  · rw [if_pos c3] at H
    have c3b0 : ((l0.length : Int) == (l1.length : Int)) = true := beq_iff_eq.mpr c3
    have c3b1 : ((l0.length : Int) != (l1.length : Int)) = false := bne_eq_false_iff_eq.mpr c3
    have c3b2 : (l0.length == l1.length) = true := by first | simpa using c3 | (simp at c3 ⊢; omega)
    clear c3
    have H' := Aside0.mk H
    clear H
    go_enter Try.func24, Try.ntmps24
    go_wp2
    repeat (go_quiet (fail); try go_wp2)
    go_loopg [5] k (fun kq v5 w' => ∃ (x5_1 : Int), v5 = .int .i64 x5_1 ∧ Aside0 (soritesref06_SamePlaces.l0 kq l0 l1 x5_1 = some r) ∧ Aside0 (kq ≤ k) ∧ Drawn0 w w')
    case atStart => exact ⟨(0), (by first | rfl | (simp; done) | (simp [*]; done)), H', ⟨Nat.le_refl _⟩, by repeat (first | exact Drawn0.refl _ | apply Drawn0.step)⟩
    case round =>
      clear H'
      try clear c1
      try clear c2
      try clear p2
      try clear c3
      try clear c3b0
      try clear c3b1
      try clear c3b2
      obtain ⟨x5_1, rfl, HA, HK1, ⟨m1, rfl⟩⟩ := hrel
      cases gk with
      | zero => exact absurd HA.out (by simp [soritesref06_SamePlaces.l0])
      | succ k1 =>
        have H := HA.out
        clear HA
        simp only [soritesref06_SamePlaces.l0] at H
        by_cases c4 : x5_1 < (l0.length : Int)
        · rw [if_pos c4] at H
          have c4b0 : decide (x5_1 < (l0.length : Int)) = true := decide_eq_true c4
          clear c4
          by_cases c5 : 0 ≤ x5_1
          · rw [if_pos c5] at H
            have c5b0 : decide (0 ≤ x5_1) = true := decide_eq_true c5
            clear c5
            by_cases c6 : x5_1 < (l1.length : Int)
            · rw [if_pos c6] at H
              have c6b0 : decide (x5_1 < (l1.length : Int)) = true := decide_eq_true c6
              clear c6
              by_cases c7 : ((rd_L2 l0 x5_1).length : Int) = ((rd_L2 l1 x5_1).length : Int)
              · rw [if_pos c7] at H
                have c7b0 : (((rd_L2 l0 x5_1).length : Int) == ((rd_L2 l1 x5_1).length : Int)) = true := beq_iff_eq.mpr c7
                have c7b1 : (((rd_L2 l0 x5_1).length : Int) != ((rd_L2 l1 x5_1).length : Int)) = false := bne_eq_false_iff_eq.mpr c7
                have c7b2 : ((rd_L2 l0 x5_1).length == (rd_L2 l1 x5_1).length) = true := by first | simpa using c7 | (simp at c7 ⊢; omega)
                clear c7
                have H' := Aside0.mk H
                clear H
                have p128 : 0 ≤ (x5_1 : Int) := of_decide_eq_true (by first | (with_reducible assumption) | assumption)
                have q128 : x5_1 < (l0.length : Int) := of_decide_eq_true (by first | (with_reducible assumption) | assumption)
                obtain ⟨ad128, A128_0, c128_0, e128, hx128_0, hl128_0, hi128_0⟩ := at_L2 HR0.out x5_1 p128 q128
                cases e128
                have HR128_0 := Aside0.mk hi128_0
                have HC128_0 := Aside0.mk hl128_0
                clear hi128_0 hl128_0
                replace p128 := eq_true p128
                replace q128 := eq_true q128
                have p129 : 0 ≤ (x5_1 : Int) := of_decide_eq_true (by first | (with_reducible assumption) | assumption)
                have q129 : x5_1 < (l1.length : Int) := of_decide_eq_true (by first | (with_reducible assumption) | assumption)
                obtain ⟨ad129, A129_0, c129_0, e129, hx129_0, hl129_0, hi129_0⟩ := at_L2 HR1.out x5_1 p129 q129
                cases e129
                have HR129_0 := Aside0.mk hi129_0
                have HC129_0 := Aside0.mk hl129_0
                clear hi129_0 hl129_0
                replace p129 := eq_true p129
                replace q129 := eq_true q129
                go_wp2
                repeat (go_quiet (fail); try go_wp2)
                go_loopg [6] k1 (fun kq v6 w' => ∃ (x6_2 : Int), v6 = .int .i64 x6_2 ∧ Aside0 (soritesref06_SamePlaces.l1 kq l0 l1 x5_1 x6_2 = some r) ∧ Aside0 (kq ≤ k1) ∧ Drawn0 w w')
                case atStart => exact ⟨(0), (by first | rfl | (simp; done) | (simp [*]; done)), H', ⟨Nat.le_refl _⟩, by repeat (first | exact Drawn0.refl _ | apply Drawn0.step)⟩
                case round =>
                  clear H'
                  try clear c1
                  try clear p1
                  try clear q1
                  try clear hx1
                  try clear c2
                  try clear p2
                  try clear c3
                  try clear c3b0
                  try clear c3b1
                  try clear c3b2
                  try clear c4
                  try clear c4b0
                  try clear c5
                  try clear c5b0
                  try clear c6
                  try clear c6b0
                  try clear c7
                  try clear c7b0
                  try clear c7b1
                  try clear c7b2
                  try clear hx128_0
                  try clear hx129_0
                  try clear p128
                  try clear p129
                  try clear p2
                  try clear q128
                  try clear q129
                  obtain ⟨x6_2, rfl, HA, HK2, ⟨m2, rfl⟩⟩ := hrel
                  cases gk with
                  | zero => exact absurd HA.out (by simp [soritesref06_SamePlaces.l1])
                  | succ k2 =>
                    have H := HA.out
                    clear HA
                    simp only [soritesref06_SamePlaces.l1] at H
                    by_cases c8 : 0 ≤ x5_1
                    · rw [if_pos c8] at H
                      have c8b0 : decide (0 ≤ x5_1) = true := decide_eq_true c8
                      clear c8
                      by_cases c9 : x5_1 < (l0.length : Int)
                      · rw [if_pos c9] at H
                        have c9b0 : decide (x5_1 < (l0.length : Int)) = true := decide_eq_true c9
                        clear c9
                        by_cases c10 : x6_2 < ((rd_L2 l0 x5_1).length : Int)
                        · rw [if_pos c10] at H
                          have c10b0 : decide (x6_2 < ((rd_L2 l0 x5_1).length : Int)) = true := decide_eq_true c10
                          clear c10
                          by_cases c11 : 0 ≤ x6_2
                          · rw [if_pos c11] at H
                            have c11b0 : decide (0 ≤ x6_2) = true := decide_eq_true c11
                            clear c11
                            by_cases c12 : x5_1 < (l1.length : Int)
                            · rw [if_pos c12] at H
                              have c12b0 : decide (x5_1 < (l1.length : Int)) = true := decide_eq_true c12
                              clear c12
                              by_cases c13 : x6_2 < ((rd_L2 l1 x5_1).length : Int)
                              · rw [if_pos c13] at H
                                have c13b0 : decide (x6_2 < ((rd_L2 l1 x5_1).length : Int)) = true := decide_eq_true c13
                                clear c13
                                by_cases c14 : (rd (rd_L2 l0 x5_1) x6_2) = (rd (rd_L2 l1 x5_1) x6_2)
                                · rw [if_pos c14] at H
                                  have c14b0 : ((rd (rd_L2 l0 x5_1) x6_2) == (rd (rd_L2 l1 x5_1) x6_2)) = true := beq_iff_eq.mpr c14
                                  have c14b1 : ((rd (rd_L2 l0 x5_1) x6_2) != (rd (rd_L2 l1 x5_1) x6_2)) = false := bne_eq_false_iff_eq.mpr c14
                                  clear c14
                                  have H' := Aside0.mk H
                                  clear H
                                  have p130 : 0 ≤ (x5_1 : Int) := of_decide_eq_true (by first | (with_reducible assumption) | assumption)
                                  have q130 : x5_1 < (l0.length : Int) := of_decide_eq_true (by first | (with_reducible assumption) | assumption)
                                  obtain ⟨ad130, A130_0, c130_0, e130, hx130_0, hl130_0, hi130_0⟩ := at_L2 HR0.out x5_1 p130 q130
                                  obtain rfl : ad128 = ad130 := (by injection e130)
                                  have HR130_0 := Aside0.mk hi130_0
                                  have HC130_0 := Aside0.mk hl130_0
                                  clear hi130_0 hl130_0
                                  replace p130 := eq_true p130
                                  replace q130 := eq_true q130
                                  have p131 : 0 ≤ (x5_1 : Int) := of_decide_eq_true (by first | (with_reducible assumption) | assumption)
                                  have q131 : x5_1 < (l0.length : Int) := of_decide_eq_true (by first | (with_reducible assumption) | assumption)
                                  obtain ⟨ad131, A131_0, c131_0, e131, hx131_0, hl131_0, hi131_0⟩ := at_L2 HR0.out x5_1 p131 q131
                                  obtain rfl : ad128 = ad131 := (by injection e131)
                                  have HR131_0 := Aside0.mk hi131_0
                                  have HC131_0 := Aside0.mk hl131_0
                                  clear hi131_0 hl131_0
                                  replace p131 := eq_true p131
                                  replace q131 := eq_true q131
                                  have ea_ := Option.some.inj (hx130_0.symm.trans hx131_0)
                                  injection ea_ with ea_ en_ ec_
                                  subst ea_
                                  subst ec_
                                  clear en_
                                  have p132 : 0 ≤ (x6_2 : Int) := of_decide_eq_true (by first | (with_reducible assumption) | assumption)
                                  have q132 : x6_2 < ((rd_L2 l0 x5_1).length : Int) := of_decide_eq_true (by first | (with_reducible assumption) | assumption)
                                  obtain ⟨ad132, e132, hx132_0⟩ := Kd.at_int HR131_0.out x6_2 p132 q132
                                  cases e132
                                  replace p132 := eq_true p132
                                  replace q132 := eq_true q132
                                  have p133 : 0 ≤ (x5_1 : Int) := of_decide_eq_true (by first | (with_reducible assumption) | assumption)
                                  have q133 : x5_1 < (l1.length : Int) := of_decide_eq_true (by first | (with_reducible assumption) | assumption)
                                  obtain ⟨ad133, A133_0, c133_0, e133, hx133_0, hl133_0, hi133_0⟩ := at_L2 HR1.out x5_1 p133 q133
                                  obtain rfl : ad129 = ad133 := (by injection e133)
                                  have HR133_0 := Aside0.mk hi133_0
                                  have HC133_0 := Aside0.mk hl133_0
                                  clear hi133_0 hl133_0
                                  replace p133 := eq_true p133
                                  replace q133 := eq_true q133
                                  have p134 : 0 ≤ (x6_2 : Int) := of_decide_eq_true (by first | (with_reducible assumption) | assumption)
                                  have q134 : x6_2 < ((rd_L2 l1 x5_1).length : Int) := of_decide_eq_true (by first | (with_reducible assumption) | assumption)
                                  obtain ⟨ad134, e134, hx134_0⟩ := Kd.at_int HR133_0.out x6_2 p134 q134
                                  cases e134
                                  replace p134 := eq_true p134
                                  replace q134 := eq_true q134
                                  go_wp2
                                  repeat (go_quiet (fail); try go_wp2)
                                  go_roundg k2
                                  case measure => have := HK1.out; have := HK2.out; omega
                                  case rel => exact ⟨(wrap64 (x6_2 + 1)), (by first | rfl | (simp; done) | (simp [*]; done)), H', ⟨by have := HK1.out; have := HK2.out; omega⟩, by repeat (first | exact Drawn0.refl _ | apply Drawn0.step)⟩
                                · rw [if_neg c14] at H
                                  have c14b0 : ((rd (rd_L2 l0 x5_1) x6_2) == (rd (rd_L2 l1 x5_1) x6_2)) = false := beq_eq_false_iff_ne.mpr c14
                                  have c14b1 : ((rd (rd_L2 l0 x5_1) x6_2) != (rd (rd_L2 l1 x5_1) x6_2)) = true := bne_iff_ne.mpr c14
                                  obtain rfl := Option.some.inj H
                                  have p130 : 0 ≤ (x5_1 : Int) := of_decide_eq_true (by first | (with_reducible assumption) | assumption)
                                  have q130 : x5_1 < (l0.length : Int) := of_decide_eq_true (by first | (with_reducible assumption) | assumption)
                                  obtain ⟨ad130, A130_0, c130_0, e130, hx130_0, hl130_0, hi130_0⟩ := at_L2 HR0.out x5_1 p130 q130
                                  obtain rfl : ad128 = ad130 := (by injection e130)
                                  have HR130_0 := Aside0.mk hi130_0
                                  have HC130_0 := Aside0.mk hl130_0
                                  clear hi130_0 hl130_0
                                  replace p130 := eq_true p130
                                  replace q130 := eq_true q130
                                  have p131 : 0 ≤ (x5_1 : Int) := of_decide_eq_true (by first | (with_reducible assumption) | assumption)
                                  have q131 : x5_1 < (l0.length : Int) := of_decide_eq_true (by first | (with_reducible assumption) | assumption)
                                  obtain ⟨ad131, A131_0, c131_0, e131, hx131_0, hl131_0, hi131_0⟩ := at_L2 HR0.out x5_1 p131 q131
                                  obtain rfl : ad128 = ad131 := (by injection e131)
                                  have HR131_0 := Aside0.mk hi131_0
                                  have HC131_0 := Aside0.mk hl131_0
                                  clear hi131_0 hl131_0
                                  replace p131 := eq_true p131
                                  replace q131 := eq_true q131
                                  have ea_ := Option.some.inj (hx130_0.symm.trans hx131_0)
                                  injection ea_ with ea_ en_ ec_
                                  subst ea_
                                  subst ec_
                                  clear en_
                                  have p132 : 0 ≤ (x6_2 : Int) := of_decide_eq_true (by first | (with_reducible assumption) | assumption)
                                  have q132 : x6_2 < ((rd_L2 l0 x5_1).length : Int) := of_decide_eq_true (by first | (with_reducible assumption) | assumption)
                                  obtain ⟨ad132, e132, hx132_0⟩ := Kd.at_int HR131_0.out x6_2 p132 q132
                                  cases e132
                                  replace p132 := eq_true p132
                                  replace q132 := eq_true q132
                                  have p133 : 0 ≤ (x5_1 : Int) := of_decide_eq_true (by first | (with_reducible assumption) | assumption)
                                  have q133 : x5_1 < (l1.length : Int) := of_decide_eq_true (by first | (with_reducible assumption) | assumption)
                                  obtain ⟨ad133, A133_0, c133_0, e133, hx133_0, hl133_0, hi133_0⟩ := at_L2 HR1.out x5_1 p133 q133
                                  obtain rfl : ad129 = ad133 := (by injection e133)
                                  have HR133_0 := Aside0.mk hi133_0
                                  have HC133_0 := Aside0.mk hl133_0
                                  clear hi133_0 hl133_0
                                  replace p133 := eq_true p133
                                  replace q133 := eq_true q133
                                  have p134 : 0 ≤ (x6_2 : Int) := of_decide_eq_true (by first | (with_reducible assumption) | assumption)
                                  have q134 : x6_2 < ((rd_L2 l1 x5_1).length : Int) := of_decide_eq_true (by first | (with_reducible assumption) | assumption)
                                  obtain ⟨ad134, e134, hx134_0⟩ := Kd.at_int HR133_0.out x6_2 p134 q134
                                  cases e134
                                  replace p134 := eq_true p134
                                  replace q134 := eq_true q134
                                  go_wp2
                                  repeat (go_quiet (fail); try go_wp2)
                                  go_ret
                                  exact ⟨by first | rfl | (simp; done) | (simp [*]; done), by repeat (first | exact Drawn0.refl _ | apply Drawn0.step)⟩
                              · rw [if_neg c13] at H
                                exact absurd H (by simp)
                            · rw [if_neg c12] at H
                              exact absurd H (by simp)
                          · rw [if_neg c11] at H
                            exact absurd H (by simp)
                        · rw [if_neg c10] at H
                          have c10b0 : decide (x6_2 < ((rd_L2 l0 x5_1).length : Int)) = false := decide_eq_false c10
                          clear c10
                          have H' := Aside0.mk H
                          clear H
                          have p130 : 0 ≤ (x5_1 : Int) := of_decide_eq_true (by first | (with_reducible assumption) | assumption)
                          have q130 : x5_1 < (l0.length : Int) := of_decide_eq_true (by first | (with_reducible assumption) | assumption)
                          obtain ⟨ad130, A130_0, c130_0, e130, hx130_0, hl130_0, hi130_0⟩ := at_L2 HR0.out x5_1 p130 q130
                          obtain rfl : ad128 = ad130 := (by injection e130)
                          have HR130_0 := Aside0.mk hi130_0
                          have HC130_0 := Aside0.mk hl130_0
                          clear hi130_0 hl130_0
                          replace p130 := eq_true p130
                          replace q130 := eq_true q130
                          go_wp2
                          repeat (go_quiet (fail); try go_wp2)
                          go_roundg k2
                          case measure => have := HK1.out; have := HK2.out; omega
                          case rel => exact ⟨(wrap64 (x5_1 + 1)), (by first | rfl | (simp; done) | (simp [*]; done)), H', ⟨by have := HK1.out; have := HK2.out; omega⟩, by repeat (first | exact Drawn0.refl _ | apply Drawn0.step)⟩
                      · rw [if_neg c9] at H
                        exact absurd H (by simp)
                    · rw [if_neg c8] at H
                      exact absurd H (by simp)
              · rw [if_neg c7] at H
                have c7b0 : (((rd_L2 l0 x5_1).length : Int) == ((rd_L2 l1 x5_1).length : Int)) = false := beq_eq_false_iff_ne.mpr c7
                have c7b1 : (((rd_L2 l0 x5_1).length : Int) != ((rd_L2 l1 x5_1).length : Int)) = true := bne_iff_ne.mpr c7
                have c7b2 : ((rd_L2 l0 x5_1).length == (rd_L2 l1 x5_1).length) = false := by first | simpa using c7 | (simp at c7 ⊢; omega)
                obtain rfl := Option.some.inj H
                have p128 : 0 ≤ (x5_1 : Int) := of_decide_eq_true (by first | (with_reducible assumption) | assumption)
                have q128 : x5_1 < (l0.length : Int) := of_decide_eq_true (by first | (with_reducible assumption) | assumption)
                obtain ⟨ad128, A128_0, c128_0, e128, hx128_0, hl128_0, hi128_0⟩ := at_L2 HR0.out x5_1 p128 q128
                cases e128
                have HR128_0 := Aside0.mk hi128_0
                have HC128_0 := Aside0.mk hl128_0
                clear hi128_0 hl128_0
                replace p128 := eq_true p128
                replace q128 := eq_true q128
                have p129 : 0 ≤ (x5_1 : Int) := of_decide_eq_true (by first | (with_reducible assumption) | assumption)
                have q129 : x5_1 < (l1.length : Int) := of_decide_eq_true (by first | (with_reducible assumption) | assumption)
                obtain ⟨ad129, A129_0, c129_0, e129, hx129_0, hl129_0, hi129_0⟩ := at_L2 HR1.out x5_1 p129 q129
                cases e129
                have HR129_0 := Aside0.mk hi129_0
                have HC129_0 := Aside0.mk hl129_0
                clear hi129_0 hl129_0
                replace p129 := eq_true p129
                replace q129 := eq_true q129
                go_wp2
                repeat (go_quiet (fail); try go_wp2)
                go_ret
                exact ⟨by first | rfl | (simp; done) | (simp [*]; done), by repeat (first | exact Drawn0.refl _ | apply Drawn0.step)⟩
            · rw [if_neg c6] at H
              exact absurd H (by simp)
          · rw [if_neg c5] at H
            exact absurd H (by simp)
        · rw [if_neg c4] at H
          have c4b0 : decide (x5_1 < (l0.length : Int)) = false := decide_eq_false c4
          clear c4
          obtain rfl := Option.some.inj H
          go_wp2
          repeat (go_quiet (fail); try go_wp2)
          go_ret
          exact ⟨by first | rfl | (simp; done) | (simp [*]; done), by repeat (first | exact Drawn0.refl _ | apply Drawn0.step)⟩
  · rw [if_neg c3] at H
    have c3b0 : ((l0.length : Int) == (l1.length : Int)) = false := beq_eq_false_iff_ne.mpr c3
    have c3b1 : ((l0.length : Int) != (l1.length : Int)) = true := bne_iff_ne.mpr c3
    have c3b2 : (l0.length == l1.length) = false := by first | simpa using c3 | (simp at c3 ⊢; omega)
    obtain rfl := Option.some.inj H
    go_enter Try.func24, Try.ntmps24
    go_wp2
    repeat (go_quiet (fail); try go_wp2)
    go_ret
    exact ⟨by first | rfl | (simp; done) | (simp [*]; done), by repeat (first | exact Drawn0.refl _ | apply Drawn0.step)⟩
end Go.Proofs.Ytpfddihcikiofaa.P
end

section
namespace Go.Proofs.Ytpfddihcikiofaa.P
open Go.RowKit Go.Proofs.YtpfddihcikiofaaW.PrintWords Go.Proofs.YtpfddihcikiofaaW.PrintLast Go.Proofs.YtpfddihcikiofaaW.PrintMore
set_option linter.unusedVariables false
set_option linter.unusedSimpArgs false
mutual
theorem at_mem : ∀ (pre q : List Int) (t s : S30), atT q t = some s → (pre ++ q, s) ∈ flatP pre t
  | pre, [], ⟨f, l⟩, s, h => by
    simp only [atT, Option.some.injEq] at h
    subst h
    rw [flatP]
    simp
  | pre, i :: q, ⟨f, l⟩, s, h => by
    simp only [atT] at h
    by_cases hc : i < 0 ∨ ((partsT ⟨f, l⟩).length : Int) ≤ i
    · rw [if_pos hc] at h; cases h
    · rw [if_neg hc] at h
      obtain ⟨hf, hi, hrd⟩ := parts_at hc
      rw [hrd] at h
      rw [flatP, if_neg hf]
      refine List.mem_cons_of_mem _ ?_
      have := ats_mem pre 0 l i.toNat hi q s h
      rw [show ((0 + i.toNat : Nat) : Int) = i by omega] at this
      exact this
theorem ats_mem : ∀ (pre : List Int) (k : Nat) (l : List S30) (i : Nat) (hi : i < l.length) (q : List Int) (s : S30), atT q l[i] = some s → (pre ++ ((k + i : Nat) : Int) :: q, s) ∈ flatPs pre k l
  | pre, k, [], i, hi, q, s, h => absurd hi (by simp)
  | pre, k, x :: r, 0, hi, q, s, h => by
    rw [flatPs]
    refine List.mem_append_left _ ?_
    have := at_mem (pre ++ [(k : Int)]) q x s h
    simpa using this
  | pre, k, x :: r, i + 1, hi, q, s, h => by
    rw [flatPs]
    refine List.mem_append_right _ ?_
    have := ats_mem pre (k + 1) r i (by simpa using hi) q s h
    rw [show k + 1 + i = k + (i + 1) by omega] at this
    exact this
end
theorem known_iff (q : List Int) (t : S30) : q ∈ (flatP [] t).map Prod.fst ↔ (atT q t).isSome = true := by
  constructor
  · intro h
    obtain ⟨e, he, rfl⟩ := List.mem_map.1 h
    obtain ⟨q', h1, h2⟩ := flatP_at [] t e he
    rw [h1, List.nil_append, h2]
    rfl
  · intro h
    obtain ⟨s, hs⟩ := Option.isSome_iff_exists.1 h
    exact List.mem_map.2 ⟨_, at_mem [] q t s hs, by simp⟩
theorem put_none (q : List Int) (t u : S30) (h : atT q t = none) : put0 q t u = none := by
  induction q generalizing t with
  | nil => simp [atT] at h
  | cons i q ih =>
    simp only [atT, put0] at h ⊢
    by_cases hc : i < 0 ∨ ((partsT t).length : Int) ≤ i
    · rw [if_pos hc]
    · rw [if_neg hc] at h ⊢
      rw [ih _ h]
      rfl
theorem putT_none (q : List Int) (t u : S30) (h : atT q t = none) : putT q t u = none := by
  have h1 := put_eqv q t u
  rw [put_none q t u h] at h1
  cases h2 : putT q t u with
  | none => rfl
  | some z => rw [h2] at h1; exact h1.elim
theorem rdL2_at (l : List (List Int)) (k : Nat) (h : k < l.length) : rd_L2 l (k : Int) = l[k] := by
  unfold rd_L2
  simp [List.getD, List.getElem?_eq_getElem h]
theorem SamePlaces_spec (l m : List (List Int)) (hl : l.length ≤ 1000000) (hs : ∀ x ∈ l, x.length ≤ 1000000) : Ev (fun k => soritesref06_SamePlaces.f k l m) (decide (l = m)) := by
  unfold soritesref06_SamePlaces.f
  by_cases hlm : l.length = m.length
  · simp only [if_pos (show (l.length : Int) = m.length by omega)]
    have key : ∀ n i, l.length - i = n → i ≤ l.length → l.take i = m.take i → Ev (fun k => soritesref06_SamePlaces.l0 k l m (i : Int)) (decide (l = m)) := by
      intro n
      induction n with
      | zero =>
        intro i hi hle heq
        refine Ev.step (f := fun _ => some true) (fun k => by rw [soritesref06_SamePlaces.l0, if_neg (by omega)]) ?_
        have : l = m := by rwa [List.take_of_length_le (by omega), List.take_of_length_le (by omega)] at heq
        rw [decide_eq_true this]; exact Ev.now _
      | succ n ihn =>
        intro i hi hle heq
        have hlt : i < l.length := by omega
        have hltm : i < m.length := by omega
        have hxs := hs l[i] (List.getElem_mem hlt)
        by_cases hxl : l[i].length = m[i].length
        · have inner : ∀ n2 j, l[i].length - j = n2 → j ≤ l[i].length → l[i].take j = m[i].take j → Ev (fun k => soritesref06_SamePlaces.l1 k l m (i : Int) (j : Int)) (decide (l = m)) := by
            intro n2
            induction n2 with
            | zero =>
              intro j hj hjle hjeq
              refine Ev.step (f := fun k => soritesref06_SamePlaces.l0 k l m ((i + 1 : Nat) : Int)) (fun k => ?_) (ihn (i + 1) (by omega) (by omega) ?_)
              · rw [soritesref06_SamePlaces.l1, if_pos (by omega), if_pos (by omega), rdL2_at l i hlt, if_neg (by omega), wsucc i l.length hlt (by omega)]
              · rw [List.take_of_length_le (by omega), List.take_of_length_le (by omega)] at hjeq
                rw [List.take_succ_eq_append_getElem hlt, List.take_succ_eq_append_getElem hltm, heq, hjeq]
            | succ n2 ihn2 =>
              intro j hj hjle hjeq
              have h1 : j < l[i].length := by omega
              have h2 : j < m[i].length := by omega
              by_cases he : l[i][j] = m[i][j]
              · refine Ev.step (f := fun k => soritesref06_SamePlaces.l1 k l m (i : Int) ((j + 1 : Nat) : Int)) (fun k => ?_) (ihn2 (j + 1) (by omega) (by omega) ?_)
                · rw [soritesref06_SamePlaces.l1, if_pos (by omega), if_pos (by omega), rdL2_at l i hlt, if_pos (by omega), if_pos (by omega), if_pos (by omega), rdL2_at m i hltm, if_pos (by omega), rdi_at _ j h1, rdi_at _ j h2, if_pos he, wsucc j l[i].length h1 (by omega)]
                · rw [List.take_succ_eq_append_getElem h1, List.take_succ_eq_append_getElem h2, hjeq, he]
              · refine Ev.step (f := fun _ => some false) (fun k => ?_) ?_
                · rw [soritesref06_SamePlaces.l1, if_pos (by omega), if_pos (by omega), rdL2_at l i hlt, if_pos (by omega), if_pos (by omega), if_pos (by omega), rdL2_at m i hltm, if_pos (by omega), rdi_at _ j h1, rdi_at _ j h2, if_neg he]
                · have : ¬ l = m := fun h => he (by subst h; rfl)
                  rw [decide_eq_false this]; exact Ev.now _
          refine Ev.step (f := fun k => soritesref06_SamePlaces.l1 k l m (i : Int) ((0 : Nat) : Int)) (fun k => ?_) (inner _ 0 rfl (by omega) (by simp))
          rw [soritesref06_SamePlaces.l0, if_pos (by omega), if_pos (by omega), if_pos (by omega), rdL2_at l i hlt, rdL2_at m i hltm, if_pos (by omega)]
          rfl
        · refine Ev.step (f := fun _ => some false) (fun k => ?_) ?_
          · rw [soritesref06_SamePlaces.l0, if_pos (by omega), if_pos (by omega), if_pos (by omega), rdL2_at l i hlt, rdL2_at m i hltm, if_neg (by omega)]
          · have : ¬ l = m := fun h => hxl (by subst h; rfl)
            rw [decide_eq_false this]; exact Ev.now _
    have := key l.length 0 rfl (by omega) (by simp)
    simpa using this
  · simp only [if_neg (show ¬ (l.length : Int) = m.length by omega)]
    have : ¬ l = m := fun h => hlm (by rw [h])
    rw [decide_eq_false this]; exact Ev.now _
theorem RPlaces_spec : ∀ (t : S30), fit t → ∀ pre : List Int, pre.length + (nodes t).length ≤ 1000000000 → Ev (fun k => soritesref06_Places.f k pre t.f0 t.f1) ((flatP pre t).map Prod.fst) := by
  refine S30.ind ?_
  intro f l ih hfit pre hpre
  refine Ev.step (f := fun k => soritesref06_Places.l0 k pre [pre] 0 f l) (fun k => by rw [soritesref06_Places.f]) ?_
  by_cases hf : f < 0
  · refine Ev.step (f := fun _ => some [pre]) (fun k => by rw [soritesref06_Places.l0, if_neg (by omega)]) ?_
    have : (flatP pre ⟨f, l⟩).map Prod.fst = [pre] := by simp [flatP, hf]
    rw [this]; exact Ev.now _
  · obtain ⟨hll, hsub⟩ := fit_sub hf hfit
    have hn : nodes ⟨f, l⟩ = ⟨f, l⟩ :: nodess l := by simp [nodes, hf]
    have hlen := hfit.1
    rw [hn, List.length_cons] at hlen hpre
    have hp : (flatP pre ⟨f, l⟩).map Prod.fst = pre :: (flatPs pre 0 l).map Prod.fst := by simp [flatP, hf]
    have hfl : ∀ r : List S30, (flatPs pre 0 r).length = (nodess r).length := fun r => by rw [← flatPs_snd pre 0 r, List.length_map]
    have key : ∀ n i, l.length - i = n → i ≤ l.length → Ev (fun k => soritesref06_Places.l0 k pre (pre :: (flatPs pre 0 (l.take i)).map Prod.fst) (i : Int) f l) ((flatP pre ⟨f, l⟩).map Prod.fst) := by
      intro n
      induction n with
      | zero =>
        intro i hi hle
        refine Ev.step (f := fun _ => some (pre :: (flatPs pre 0 (l.take i)).map Prod.fst)) (fun k => by rw [soritesref06_Places.l0, if_pos (by omega), if_neg (by omega)]) ?_
        rw [List.take_of_length_le (by omega), hp]; exact Ev.now _
      | succ n ihn =>
        intro i hi hle
        have hlt : i < l.length := by omega
        have hmem := List.getElem_mem hlt
        have htk := flatPs_take pre l i hlt
        have htl := nodess_take_le l (i + 1)
        rw [nodess_take l i hlt, List.length_append] at htl
        have hone := nodess_one_le hmem
        have hn1 := nodes_pos l[i]
        refine Ev.step (f := fun k => (soritesref06_Places.f k (pre ++ [(i : Int)]) l[i].f0 l[i].f1).bind fun t => if (pre :: (flatPs pre 0 (l.take i)).map Prod.fst).length + t.length < 5864062014805 then soritesref06_Places.l0 k pre ((pre :: (flatPs pre 0 (l.take i)).map Prod.fst) ++ t) ((i + 1 : Nat) : Int) f l else none) (fun k => ?_) (Ev.bind (ih l[i] hmem (hsub _ hmem) (pre ++ [(i : Int)]) (by simp; omega)) ?_)
        · rw [soritesref06_Places.l0, if_pos (by omega), if_pos (by omega)]
          simp only [Option.bind_some, List.nil_append, List.length_nil, List.length_singleton]
          rw [if_pos (by omega), if_pos (by omega), if_pos (by omega), rd24_at l i hlt, wsucc i l.length hlt (by omega)]
        · simp only [List.length_cons, List.length_map, hfl, flatP_len]
          simp only [if_pos (show (nodess (l.take i)).length + 1 + (nodes l[i]).length < 5864062014805 by omega)]
          have := ihn (i + 1) (by omega) (by omega)
          rw [htk, List.map_append] at this
          simpa using this
    have := key l.length 0 rfl (by omega)
    simpa [flatPs] using this
def PutAt (t u z : S30) (n m : Int) : Prop :=
  if n < ((nodes t).length : Int) then m = -1 ∧ ∀ pre e, (flatP pre t)[n.toNat]? = some e → ∃ q z0, e.1 = pre ++ q ∧ put0 q t u = some z0 ∧ cmpT z z0 = 0
  else m = n - (nodes t).length ∧ cmpT z t = 0
def PutsAt (l : List S30) (u : S30) (zs : List S30) (n m : Int) : Prop :=
  zs.length = l.length ∧ (if n < 0 then m = n ∧ cmpTs zs l = 0
    else if n < ((nodess l).length : Int) then m = -1 ∧ ∀ pre k e, (flatPs pre k l)[n.toNat]? = some e → ∃ (i : Nat) (q : List Int) (z0 : S30), e.1 = pre ++ ((k + i : Nat) : Int) :: q ∧ ∃ hi : i < l.length, put0 q l[i] u = some z0 ∧ cmpTs zs (l.set i z0) = 0
    else m = n - (nodess l).length ∧ cmpTs zs l = 0)
theorem cmpTs_cons {a b : S30} {x y : List S30} (h1 : cmpT a b = 0) (h2 : cmpTs x y = 0) : cmpTs (a :: x) (b :: y) = 0 := by rw [cmpTs, if_pos h1]; exact h2
theorem puts_skip {x z u : S30} {r zs : List S30} {n m1 m : Int} (hn : n < 0) (h : PutsAt r u zs n m) : PutsAt (x :: r) u (x :: zs) n m := by
  obtain ⟨h1, h2⟩ := h
  rw [if_pos hn] at h2
  refine ⟨by simp [h1], ?_⟩
  rw [if_pos hn]
  exact ⟨h2.1, cmpTs_cons (cmp_self x) h2.2⟩
theorem puts_cons {x z u : S30} {r zs : List S30} {n m1 m : Int} (hn : 0 ≤ n) (hx : PutAt x u z n m1) (h : PutsAt r u zs m1 m) : PutsAt (x :: r) u (z :: zs) n m := by
  obtain ⟨h1, h2⟩ := h
  refine ⟨by simp [h1], ?_⟩
  rw [if_neg (by omega)]
  unfold PutAt at hx
  have hnl : ((nodess (x :: r)).length : Int) = (nodes x).length + (nodess r).length := by rw [nodess, List.length_append]; omega
  rw [hnl]
  by_cases hc : n < ((nodes x).length : Int)
  · rw [if_pos hc] at hx
    obtain ⟨rfl, hx2⟩ := hx
    rw [if_pos (by omega)] at h2
    rw [if_pos (by omega)]
    refine ⟨h2.1, fun pre k e he => ?_⟩
    rw [flatPs, List.getElem?_append_left (by rw [flatP_len]; omega)] at he
    obtain ⟨q, z0, e1, e2, e3⟩ := hx2 _ _ he
    exact ⟨0, q, z0, by rw [e1]; simp, by simp, e2, cmpTs_cons e3 h2.2⟩
  · rw [if_neg hc] at hx
    obtain ⟨rfl, hx2⟩ := hx
    rw [if_neg (by omega)] at h2
    by_cases hc2 : n - (nodes x).length < ((nodess r).length : Int)
    · rw [if_pos hc2] at h2
      rw [if_pos (by omega)]
      refine ⟨h2.1, fun pre k e he => ?_⟩
      rw [flatPs, List.getElem?_append_right (by rw [flatP_len]; omega), flatP_len] at he
      obtain ⟨i, q, z0, e1, hi, e2, e3⟩ := h2.2 pre (k + 1) e (by rw [show (n - ((nodes x).length : Int)).toNat = n.toNat - (nodes x).length by omega]; exact he)
      exact ⟨i + 1, q, z0, by rw [e1, show k + 1 + i = k + (i + 1) by omega], by simpa using hi, by simpa using e2, by simpa using cmpTs_cons hx2 e3⟩
    · rw [if_neg hc2] at h2
      rw [if_neg (by omega)]
      exact ⟨by omega, cmpTs_cons hx2 h2.2⟩
theorem putAt_range {t u z : S30} {n m : Int} (h : PutAt t u z n m) (hn : 0 ≤ n) : -1 ≤ m ∧ m ≤ n := by
  unfold PutAt at h
  have := nodes_pos t
  split at h
  · omega
  · omega
theorem RPut_spec : ∀ (t : S30), fit t → ∀ (u : S30) (n : Int), 0 ≤ n → n ≤ 1000000000 → ∃ z m, PutAt t u z n m ∧ Ev (fun k => soritesref06_Put.f k t.f0 t.f1 n u.f0 u.f1) (z.f0, z.f1, m) := by
  refine S30.ind ?_
  intro f l ih hfit u n hn0 hn1
  by_cases hz : n = 0
  · subst hz
    refine ⟨u, -1, ?_, Ev.step (f := fun _ => some (u.f0, u.f1, (-1 : Int))) (fun k => by rw [soritesref06_Put.f, if_pos rfl]) (Ev.now _)⟩
    unfold PutAt
    have := nodes_pos ⟨f, l⟩
    rw [if_pos (by omega)]
    refine ⟨rfl, fun pre e he => ⟨[], u, ?_, rfl, cmp_self u⟩⟩
    rw [flatP] at he
    simp at he
    rw [← he]
    simp
  · by_cases hf : f < 0
    · refine ⟨⟨f, []⟩, n - 1, ?_, Ev.step (f := fun _ => some (f, [], n - 1)) (fun k => by rw [soritesref06_Put.f, if_neg hz, if_pos hf, w64 _ (by omega)]) (Ev.now _)⟩
      unfold PutAt
      have : nodes ⟨f, l⟩ = [⟨f, l⟩] := by simp [nodes, hf]
      rw [this, if_neg (by simp; omega)]
      exact ⟨by simp, cmp_zero' rfl (fun h => absurd hf h)⟩
    · obtain ⟨hll, hsub⟩ := fit_sub hf hfit
      have hn : nodes ⟨f, l⟩ = ⟨f, l⟩ :: nodess l := by simp [nodes, hf]
      have key : ∀ c i (acc : List S30) (n : Int), l.length - i = c → i ≤ l.length → acc.length = i → -1 ≤ n → n ≤ 1000000000 → ∃ zs m, PutsAt (l.drop i) u zs n m ∧ Ev (fun k => soritesref06_Put.l0 k n (i : Int) f l u.f0 u.f1 f acc) (f, acc ++ zs, m) := by
        intro c
        induction c with
        | zero =>
          intro i acc n hi hle hacc h0 h1
          refine ⟨[], n, ?_, Ev.step (f := fun _ => some (f, acc ++ [], n)) (fun k => by rw [soritesref06_Put.l0, if_neg (by omega), List.append_nil]) (Ev.now _)⟩
          rw [List.drop_of_length_le (by omega)]
          refine ⟨rfl, ?_⟩
          by_cases hc : n < 0
          · rw [if_pos hc]; exact ⟨rfl, cmpTs_self []⟩
          · rw [if_neg hc, if_neg (by simp [nodess]; omega)]; exact ⟨by simp [nodess], cmpTs_self []⟩
        | succ c ihc =>
          intro i acc n hi hle hacc h0 h1
          have hlt : i < l.length := by omega
          have hmem := List.getElem_mem hlt
          by_cases hc : n ≥ 0
          · obtain ⟨z, m1, hz, hev⟩ := ih l[i] hmem (hsub _ hmem) u n hc h1
            have hr := putAt_range hz hc
            obtain ⟨zs, m, hzs, hev2⟩ := ihc (i + 1) (acc ++ [(⟨z.f0, z.f1⟩ : S24)]) m1 (by omega) (by omega) (by simp [hacc]) (by omega) (by omega)
            refine ⟨z :: zs, m, ?_, Ev.step (f := fun k => (soritesref06_Put.f k l[i].f0 l[i].f1 n u.f0 u.f1).bind fun bt => soritesref06_Put.l0 k bt.2.2 ((i + 1 : Nat) : Int) f l u.f0 u.f1 f (acc ++ [(⟨bt.1, bt.2.1⟩ : S24)])) (fun k => ?_) (Ev.bind hev ?_)⟩
            · rw [List.drop_eq_getElem_cons hlt]
              exact puts_cons hc hz hzs
            · rw [soritesref06_Put.l0, if_pos (by omega), if_pos (by omega), if_pos hc, rd24_at l i hlt, wsucc i l.length hlt (by omega)]
              simp only [if_pos (show acc.length < 4398046511104 by omega)]
            · have e : acc ++ z :: zs = acc ++ [(⟨z.f0, z.f1⟩ : S24)] ++ zs := by simp [S30.eta]
              rw [e]
              exact hev2
          · obtain ⟨zs, m, hzs, hev2⟩ := ihc (i + 1) (acc ++ [(⟨l[i].f0, l[i].f1⟩ : S24)]) n (by omega) (by omega) (by simp [hacc]) (by omega) (by omega)
            refine ⟨l[i] :: zs, m, ?_, Ev.step (f := fun k => soritesref06_Put.l0 k n ((i + 1 : Nat) : Int) f l u.f0 u.f1 f (acc ++ [(⟨l[i].f0, l[i].f1⟩ : S24)])) (fun k => ?_) ?_⟩
            · rw [List.drop_eq_getElem_cons hlt]
              exact puts_skip (z := u) (m1 := 0) (by omega) hzs
            · rw [soritesref06_Put.l0, if_pos (by omega), if_pos (by omega), if_neg hc, rd24_at l i hlt, wsucc i l.length hlt (by omega), if_pos (by omega)]
            · have e : acc ++ l[i] :: zs = acc ++ [(⟨l[i].f0, l[i].f1⟩ : S24)] ++ zs := by simp [S30.eta]
              rw [e]
              exact hev2
      obtain ⟨zs, m, hzs, hev⟩ := key l.length 0 [] (n - 1) rfl (by omega) rfl (by omega) (by omega)
      refine ⟨⟨f, zs⟩, m, ?_, Ev.step (f := fun k => soritesref06_Put.l0 k (n - 1) ((0 : Nat) : Int) f l u.f0 u.f1 f []) (fun k => by rw [soritesref06_Put.f, if_neg hz, if_neg hf, w64 _ (by omega)]; rfl) ?_⟩
      · rw [List.drop_zero] at hzs
        obtain ⟨h1, h2⟩ := hzs
        rw [if_neg (by omega)] at h2
        unfold PutAt
        rw [hn]
        simp only [List.length_cons]
        by_cases hc : n - 1 < ((nodess l).length : Int)
        · rw [if_pos hc] at h2
          rw [if_pos (by omega)]
          refine ⟨h2.1, fun pre e he => ?_⟩
          rw [flatP, if_neg hf] at he
          rw [show n.toNat = (n - 1).toNat + 1 by omega, List.getElem?_cons_succ] at he
          obtain ⟨i, q, z0, e1, hi, e2, e3⟩ := h2.2 pre 0 e he
          refine ⟨((i : Nat) : Int) :: q, ⟨f, l.set i z0⟩, by simpa using e1, ?_, cmp_zero' rfl (fun _ => ⟨by simpa using h1, e3⟩)⟩
          simp only [put0]
          rw [parts_set hf, if_neg (by omega), rdC_at l i hi, e2]
          rfl
        · rw [if_neg hc] at h2
          rw [if_neg (by omega)]
          exact ⟨by omega, cmp_zero' rfl (fun _ => ⟨h1, h2.2⟩)⟩
      · simpa using hev
theorem put_both {t u : S30} (ht : fit t) {k : Nat} (hk : k < (nodes t).length) (hk2 : k ≤ 1000000000) : ∃ z m, Ev (fun j => soritesref06_Put.f j t.f0 t.f1 (k : Int) u.f0 u.f1) (z.f0, z.f1, m) ∧ ∃ zp, putT (((flatP [] t).map Prod.fst).getD k []) t u = some zp ∧ cmpT zp z = 0 := by
  obtain ⟨z, m, hz, hev⟩ := RPut_spec t ht u (k : Int) (by omega) (by omega)
  refine ⟨z, m, hev, ?_⟩
  unfold PutAt at hz
  rw [if_pos (by omega)] at hz
  have hl : k < (flatP [] t).length := by rw [flatP_len]; exact hk
  obtain ⟨q, z0, e1, e2, e3⟩ := hz.2 [] _ (by rw [Int.toNat_natCast]; exact List.getElem?_eq_getElem hl)
  have hq : ((flatP [] t).map Prod.fst).getD k [] = q := by
    rw [List.getD_eq_getElem?_getD, List.getElem?_map, List.getElem?_eq_getElem hl]
    simpa using e1
  rw [hq]
  have h1 := put_eqv q t u
  rw [e2] at h1
  cases h2 : putT q t u with
  | none => rw [h2] at h1; exact h1.elim
  | some zp =>
    rw [h2] at h1
    exact ⟨zp, rfl, eqv_trans h1 (eqv_symm e3)⟩
end Go.Proofs.Ytpfddihcikiofaa.P
end

section
namespace Go.Proofs.Ytpfddihcikiofaa.P
open Go.RowKit Go.Proofs.YtpfddihcikiofaaW.PrintWords Go.Proofs.YtpfddihcikiofaaW.PrintLast Go.Proofs.YtpfddihcikiofaaW.PrintMore
set_option linter.unusedVariables false
set_option linter.unusedSimpArgs false
set_option maxHeartbeats 4000000 in
set_option maxRecDepth 100000 in
theorem TermPlaces_r13 {id : Nat} {a : Act} {w : World} {Q : Exit → Act → World → Prop} {i : Int} {ga m cl lq cq : Nat} {xf xl : Value} {r : S30} {b : Bool} {ad : Addr} {Aq : Option Addr}
    (hr : regionOk #[{ dst := some 57, op := Op.load 30 (Operand.tmp 9), type := 30, pos := "law.go:106", after := #[], guard := none }, { dst := some 58, op := Op.move (Operand.tmp 10), type := 32, pos := "law.go:106", after := #[], guard := none }, { dst := some 59, op := Op.move (Operand.tmp 12), type := 3, pos := "law.go:106", after := #[], guard := none }, { dst := some 60, op := Op.indexAddr 32 (Operand.tmp 58) (Operand.tmp 59), type := 0, pos := "law.go:106", after := #[{ on := 1, ground := Ground.data }, { on := 2, ground := Ground.data }], guard := none }, { dst := some 61, op := Op.load 25 (Operand.tmp 60), type := 25, pos := "law.go:106", after := #[{ on := 3, ground := Ground.data }], guard := none }, { dst := some 62, op := Op.call { callee := Callee.value (Operand.func 27), args := #[Operand.tmp 57, Operand.tmp 61], argTypes := #[30, 25] }, type := 37, pos := "law.go:106", after := #[{ on := 0, ground := Ground.data }, { on := 4, ground := Ground.data }], guard := none }, { dst := some 56, op := Op.move (Operand.tmp 62), type := 37, pos := "law.go:106", after := #[{ on := 5, ground := Ground.data }], guard := none }, { dst := some 63, op := Op.extract (Operand.tmp 56) 0, type := 30, pos := "law.go:106", after := #[{ on := 6, ground := Ground.data }], guard := none }, { dst := some 64, op := Op.extract (Operand.tmp 56) 1, type := 4, pos := "law.go:106", after := #[{ on := 6, ground := Ground.data }, { on := 10, ground := Ground.gcOnly Departure.lateStores }], guard := none }, { dst := some 13, op := Op.alloc 30, type := 0, pos := "law.go:106", after := #[], guard := none }, { dst := none, op := Op.store 30 (Operand.tmp 13) (Operand.tmp 63), type := 0, pos := "law.go:106", after := #[{ on := 9, ground := Ground.data }, { on := 7, ground := Ground.data }, { on := 5, ground := Ground.chain }, { on := 0, ground := Ground.phase }, { on := 1, ground := Ground.phase }, { on := 2, ground := Ground.phase }, { on := 3, ground := Ground.phase }, { on := 4, ground := Ground.phase }, { on := 5, ground := Ground.phase }, { on := 6, ground := Ground.phase }, { on := 7, ground := Ground.phase }, { on := 8, ground := Ground.textOnly Departure.lateStores }, { on := 9, ground := Ground.phase }], guard := none }, { dst := some 14, op := Op.assign (Operand.tmp 64), type := 4, pos := "law.go:106", after := #[{ on := 8, ground := Ground.data }, { on := 10, ground := Ground.chain }, { on := 0, ground := Ground.phase }, { on := 1, ground := Ground.phase }, { on := 2, ground := Ground.phase }, { on := 3, ground := Ground.phase }, { on := 4, ground := Ground.phase }, { on := 5, ground := Ground.phase }, { on := 6, ground := Ground.phase }, { on := 7, ground := Ground.phase }, { on := 8, ground := Ground.phase }, { on := 9, ground := Ground.phase }, { on := 10, ground := Ground.phase }], guard := none }] a.tmps.size = true)
    (hT10 : a.tmps.getD 10 undef = .slice (some ad) m cl)
    (hT12 : a.tmps.getD 12 undef = .int .i64 i)
    (hT9 : a.tmps.getD 9 undef = .pointer (some ⟨ga, 0, none⟩)) (hX9 : w.heap[ga]? = some (.cells #[xf, xl] 30 (0, 0)))
    (hi : 0 ≤ i ∧ i < m) (hc0 : w.cell? (ad.add i.toNat) = some (.slice Aq lq cq))
    (hF : ∀ w1, Below w.heap.size w w1 → Calls Try.prog 27 #[.agg #[xf, xl], .slice Aq lq cq] w1 fun e w2 => ∃ A' c', e = .returned (.tuple #[.agg #[.int .i64 r.f0, .slice A' r.f1.length c'], .bool b]) ∧ r.f1.length ≤ c' ∧ Kd.F k30 w2 (fun k => k < w.heap.size ∨ w1.heap.size ≤ k) A' r.f1.length r.f1 ∧ Below w1.heap.size w1 w2)
    (hK : ∀ v w' g A' c', Below w.heap.size w w' → v 11 = .bool b → v 9 = .pointer (some ⟨g, 0, none⟩) → w.heap.size ≤ g → w'.heap[g]? = some (.cells #[.int .i64 r.f0, .slice A' r.f1.length c'] 30 (0, 0)) → r.f1.length ≤ c' → Kd.F k30 w' (fun k => k ≠ g) A' r.f1.length r.f1 → Q .normal { tmps := layL [some 57, some 58, some 59, some 60, some 61, some 62, some 56, some 63, some 64, some 13, none, some 14] 0 v a.tmps, defers := a.defers } w') :
    (Code.region id #[{ dst := some 57, op := Op.load 30 (Operand.tmp 9), type := 30, pos := "law.go:106", after := #[], guard := none }, { dst := some 58, op := Op.move (Operand.tmp 10), type := 32, pos := "law.go:106", after := #[], guard := none }, { dst := some 59, op := Op.move (Operand.tmp 12), type := 3, pos := "law.go:106", after := #[], guard := none }, { dst := some 60, op := Op.indexAddr 32 (Operand.tmp 58) (Operand.tmp 59), type := 0, pos := "law.go:106", after := #[{ on := 1, ground := Ground.data }, { on := 2, ground := Ground.data }], guard := none }, { dst := some 61, op := Op.load 25 (Operand.tmp 60), type := 25, pos := "law.go:106", after := #[{ on := 3, ground := Ground.data }], guard := none }, { dst := some 62, op := Op.call { callee := Callee.value (Operand.func 27), args := #[Operand.tmp 57, Operand.tmp 61], argTypes := #[30, 25] }, type := 37, pos := "law.go:106", after := #[{ on := 0, ground := Ground.data }, { on := 4, ground := Ground.data }], guard := none }, { dst := some 56, op := Op.move (Operand.tmp 62), type := 37, pos := "law.go:106", after := #[{ on := 5, ground := Ground.data }], guard := none }, { dst := some 63, op := Op.extract (Operand.tmp 56) 0, type := 30, pos := "law.go:106", after := #[{ on := 6, ground := Ground.data }], guard := none }, { dst := some 64, op := Op.extract (Operand.tmp 56) 1, type := 4, pos := "law.go:106", after := #[{ on := 6, ground := Ground.data }, { on := 10, ground := Ground.gcOnly Departure.lateStores }], guard := none }, { dst := some 13, op := Op.alloc 30, type := 0, pos := "law.go:106", after := #[], guard := none }, { dst := none, op := Op.store 30 (Operand.tmp 13) (Operand.tmp 63), type := 0, pos := "law.go:106", after := #[{ on := 9, ground := Ground.data }, { on := 7, ground := Ground.data }, { on := 5, ground := Ground.chain }, { on := 0, ground := Ground.phase }, { on := 1, ground := Ground.phase }, { on := 2, ground := Ground.phase }, { on := 3, ground := Ground.phase }, { on := 4, ground := Ground.phase }, { on := 5, ground := Ground.phase }, { on := 6, ground := Ground.phase }, { on := 7, ground := Ground.phase }, { on := 8, ground := Ground.textOnly Departure.lateStores }, { on := 9, ground := Ground.phase }], guard := none }, { dst := some 14, op := Op.assign (Operand.tmp 64), type := 4, pos := "law.go:106", after := #[{ on := 8, ground := Ground.data }, { on := 10, ground := Ground.chain }, { on := 0, ground := Ground.phase }, { on := 1, ground := Ground.phase }, { on := 2, ground := Ground.phase }, { on := 3, ground := Ground.phase }, { on := 4, ground := Ground.phase }, { on := 5, ground := Ground.phase }, { on := 6, ground := Ground.phase }, { on := 7, ground := Ground.phase }, { on := 8, ground := Ground.phase }, { on := 9, ground := Ground.phase }, { on := 10, ground := Ground.phase }], guard := none }] true).wp Try.prog Q a w := by
  have hmx : Try.prog.follows .mixedOrders = true := by kernel_rfl
  have hJo : ∀ i, i ∉ [5, 6, 7, 9, 10] → ∀ v d (w1 w2 : World) u, (RetJ w.heap.size 30 [(5, TupF k30 r b (fun _ => True)), (6, TupF k30 r b (fun _ => True)), (7, TermF k30 r (fun _ => True))] 9 10 7) v d w1 → d i = false → Below w1.heap.size w1 w2 → (RetJ w.heap.size 30 [(5, TupF k30 r b (fun _ => True)), (6, TupF k30 r b (fun _ => True)), (7, TermF k30 r (fun _ => True))] 9 10 7) (upd v i u) (upd d i true) w2 := fun i hi v d w1 w2 u h hd hb => RetJ.val h hd (fun e => hi (by simp [← e])) (fun e => hi (by simp [← e])) hb (fun q hq e => absurd (by simp only [List.mem_cons, List.not_mem_nil, or_false] at hq; rcases hq with rfl | rfl | rfl <;> simp [← e]) hi)
  refine region_detJ (fun _ _ => True) (RetJ w.heap.size 30 [(5, TupF k30 r b (fun _ => True)), (6, TupF k30 r b (fun _ => True)), (7, TermF k30 r (fun _ => True))] 9 10 7) 12 (trivial) (fun v => RetJ.start w.drew (Nat.le_refl w.heap.size) v) hmx hr rfl ?_
  refine DetJ.is (o := { dst := some 57, op := Op.load 30 (Operand.tmp 9), type := 30, pos := "law.go:106", after := #[], guard := none }) (u := ?ux1) (fun _ _ _ => trivial) [5, 6, 7, 9, 10] hJo rfl (by decide) (by decide) (fun T w' hb hd hB K hK => ?sx1) ?rx1
  case sx1 =>
    have e9 := (hB 9 (by kernel_rfl)).trans hT9
    have q9_0 : w'.cell? ⟨ga, 0, none⟩ = some (xf) := (blk_cell (blk_below hX9 hb) 0).trans rfl
    have q9_1 : w'.cell? ⟨ga, 1, none⟩ = some (xl) := (blk_cell (blk_below hX9 hb) 1).trans rfl
    rw [if_pos (wanted_none _ rfl)]
    clear hd hB
    go_simp
    exact hK _ (Below.refl _ _)
  refine DetJ.is (o := { dst := some 58, op := Op.move (Operand.tmp 10), type := 32, pos := "law.go:106", after := #[], guard := none }) (u := ?ux2) (fun _ _ _ => trivial) [5, 6, 7, 9, 10] hJo rfl (by decide) (by decide) (fun T w' hb hd hB K hK => ?sx2) ?rx2
  case sx2 =>
    have e10 := (hB 10 (by kernel_rfl)).trans hT10
    rw [if_pos (wanted_none _ rfl)]
    clear hd hB
    go_simp
    exact hK _ (Below.refl _ _)
  refine DetJ.is (o := { dst := some 59, op := Op.move (Operand.tmp 12), type := 3, pos := "law.go:106", after := #[], guard := none }) (u := ?ux3) (fun _ _ _ => trivial) [5, 6, 7, 9, 10] hJo rfl (by decide) (by decide) (fun T w' hb hd hB K hK => ?sx3) ?rx3
  case sx3 =>
    have e12 := (hB 12 (by kernel_rfl)).trans hT12
    rw [if_pos (wanted_none _ rfl)]
    clear hd hB
    go_simp
    exact hK _ (Below.refl _ _)
  refine DetJ.is (o := { dst := some 60, op := Op.indexAddr 32 (Operand.tmp 58) (Operand.tmp 59), type := 0, pos := "law.go:106", after := #[{ on := 1, ground := Ground.data }, { on := 2, ground := Ground.data }], guard := none }) (u := .pointer (some (ad.add i.toNat))) (fun _ _ _ => trivial) [5, 6, 7, 9, 10] hJo rfl (by decide) (by decide) (fun T w' hb hd hB K hK => ?sx4) ?rx4
  case sx4 =>
    have e58 := hd 1 58 _ (by decide) (by kernel_rfl) rfl rfl
    replace e58 : T.getD 58 undef = _ := e58
    have e59 := hd 2 59 _ (by decide) (by kernel_rfl) rfl rfl
    replace e59 : T.getD 59 undef = _ := e59
    rw [if_pos (wanted_none _ rfl)]
    have hi0 := hi.1
    have hi1 := hi.2
    clear hd hB
    go_simp
    exact hK _ (Below.refl _ _)
  refine DetJ.is (o := { dst := some 61, op := Op.load 25 (Operand.tmp 60), type := 25, pos := "law.go:106", after := #[{ on := 3, ground := Ground.data }], guard := none }) (u := ?ux5) (fun _ _ _ => trivial) [5, 6, 7, 9, 10] hJo rfl (by decide) (by decide) (fun T w' hb hd hB K hK => ?sx5) ?rx5
  case sx5 =>
    have e60 := hd 3 60 _ (by decide) (by kernel_rfl) rfl rfl
    replace e60 : T.getD 60 undef = _ := e60
    rw [if_pos (wanted_none _ rfl)]
    have hc0' := (hb.cell (cell_lt' hc0)).trans hc0
    clear hd hB
    go_simp
    exact hK _ (Below.refl _ _)
  refine DetJ.cons (o := { dst := some 62, op := Op.call { callee := Callee.value (Operand.func 27), args := #[Operand.tmp 57, Operand.tmp 61], argTypes := #[30, 25] }, type := 37, pos := "law.go:106", after := #[{ on := 0, ground := Ground.data }, { on := 4, ground := Ground.data }], guard := none }) (fun _ _ => True) rfl (by decide) (fun _ _ _ _ _ => trivial) (fun v d T w' hb hj hd0 hd hdd hB K hK => ?sx6) ?rx6
  case sx6 =>
    have e57 := hd 0 57 _ (by decide) (by kernel_rfl) rfl rfl
    replace e57 : T.getD 57 undef = _ := e57
    have e61 := hd 4 61 _ (by decide) (by kernel_rfl) rfl rfl
    replace e61 : T.getD 61 undef = _ := e61
    rw [if_pos (wanted_none _ rfl)]
    have hcl := hF w' hb
    clear hd hdd hB
    go_simp
    go_at_call 27
    refine hcl.mono ?_
    rintro e w2 ⟨A', c', rfl, hl', hF', hb'⟩
    have hfp : (TupF k30 r b (fun _ => True)).p (fun k => okF 9 v d k ∨ w'.heap.size ≤ k) (.tuple #[.agg #[.int .i64 r.f0, .slice A' r.f1.length c'], .bool b]) w2 := ⟨_, _, rfl, hl', Kd.F_mono hF' (fun k hk => ⟨hk.elim (fun h => .inl (RetJ.old hj h)) .inr, trivial⟩)⟩
    exact hK _ _ trivial (hb.trans (hb'.mono hb.size)) trivial (RetJ.val hj hd0 (by decide) (by decide) hb' (fun q hq e => by simp only [List.mem_cons, List.not_mem_nil, or_false] at hq; rcases hq with rfl | rfl | rfl <;> first | exact hfp | exact absurd e (by simp)))
  refine DetJ.cons (o := { dst := some 56, op := Op.move (Operand.tmp 62), type := 37, pos := "law.go:106", after := #[{ on := 5, ground := Ground.data }], guard := none }) (fun _ _ => True) rfl (by decide) (fun _ _ _ _ _ => trivial) (fun v d T w' hb hj hd0 hd hdd hB K hK => ?sx7) ?rx7
  case sx7 =>
    have e62 := (hdd 5 (by kernel_rfl)).2 62 rfl
    rw [if_pos (wanted_none _ rfl)]
    have xq := (hdd 5 (by kernel_rfl)).1
    obtain ⟨Aq, cq, yq, hlq, hFq⟩ := hj.2.1 (5, TupF k30 r b (fun _ => True)) (by simp) xq
    replace e62 := e62.trans yq
    clear hd hdd hB
    go_simp
    exact hK _ _ trivial hb trivial (RetJ.val hj hd0 (by decide) (by decide) (Below.refl _ _) (fun q hq e => by simp only [List.mem_cons, List.not_mem_nil, or_false] at hq; rcases hq with rfl | rfl | rfl <;> first | exact ⟨_, _, rfl, hlq, Kd.F_mono hFq (fun k hk => ⟨.inl hk.1, trivial⟩)⟩ | exact absurd e (by simp)))
  refine DetJ.cons (o := { dst := some 63, op := Op.extract (Operand.tmp 56) 0, type := 30, pos := "law.go:106", after := #[{ on := 6, ground := Ground.data }], guard := none }) (fun _ _ => True) rfl (by decide) (fun _ _ _ _ _ => trivial) (fun v d T w' hb hj hd0 hd hdd hB K hK => ?sx8) ?rx8
  case sx8 =>
    have e56 := (hdd 6 (by kernel_rfl)).2 56 rfl
    rw [if_pos (wanted_none _ rfl)]
    have xq := (hdd 6 (by kernel_rfl)).1
    obtain ⟨Aq, cq, yq, hlq, hFq⟩ := hj.2.1 (6, TupF k30 r b (fun _ => True)) (by simp) xq
    replace e56 := e56.trans yq
    clear hd hdd hB
    go_simp
    exact hK _ _ trivial hb trivial (RetJ.val hj hd0 (by decide) (by decide) (Below.refl _ _) (fun q hq e => by simp only [List.mem_cons, List.not_mem_nil, or_false] at hq; rcases hq with rfl | rfl | rfl <;> first | exact ⟨_, _, rfl, hlq, Kd.F_mono hFq (fun k hk => ⟨.inl hk.1, trivial⟩)⟩ | exact absurd e (by simp)))
  refine DetJ.cons (o := { dst := some 64, op := Op.extract (Operand.tmp 56) 1, type := 4, pos := "law.go:106", after := #[{ on := 6, ground := Ground.data }, { on := 10, ground := Ground.gcOnly Departure.lateStores }], guard := none }) (Told.is (.bool b)) rfl (by decide) (fun _ _ _ h _ => h) (fun v d T w' hb hj hd0 hd hdd hB K hK => ?sx9) ?rx9
  case sx9 =>
    have e56 := (hdd 6 (by kernel_rfl)).2 56 rfl
    rw [if_pos (wanted_none _ rfl)]
    have xq := (hdd 6 (by kernel_rfl)).1
    obtain ⟨Aq, cq, yq, hlq, hFq⟩ := hj.2.1 (6, TupF k30 r b (fun _ => True)) (by simp) xq
    replace e56 := e56.trans yq
    clear hd hdd hB
    go_simp
    exact hK _ _ trivial hb rfl (RetJ.val hj hd0 (by decide) (by decide) (Below.refl _ _) (fun q hq e => by simp only [List.mem_cons, List.not_mem_nil, or_false] at hq; rcases hq with rfl | rfl | rfl <;> first | exact absurd e (by simp) | exact absurd e (by simp)))
  refine DetJ.cons (o := { dst := some 13, op := Op.alloc 30, type := 0, pos := "law.go:106", after := #[], guard := none }) (fun _ _ => True) rfl (by decide) (fun _ _ _ _ _ => trivial) (fun v d T w' hb hj hd0 hd hdd hB K hK => ?sx10) ?rx10
  case sx10 =>
    rw [if_pos (wanted_none _ rfl)]
    clear hd hdd hB
    go_simp
    exact hK _ _ trivial (below_alloc hb _) trivial (RetJ.alloc hj hd0 (by decide) (by decide) (by intro q hq; simp only [List.mem_cons, List.not_mem_nil, or_false] at hq; rcases hq with rfl | rfl | rfl <;> simp))
  refine DetJ.cons (o := { dst := none, op := Op.store 30 (Operand.tmp 13) (Operand.tmp 63), type := 0, pos := "law.go:106", after := #[{ on := 9, ground := Ground.data }, { on := 7, ground := Ground.data }, { on := 5, ground := Ground.chain }, { on := 0, ground := Ground.phase }, { on := 1, ground := Ground.phase }, { on := 2, ground := Ground.phase }, { on := 3, ground := Ground.phase }, { on := 4, ground := Ground.phase }, { on := 5, ground := Ground.phase }, { on := 6, ground := Ground.phase }, { on := 7, ground := Ground.phase }, { on := 8, ground := Ground.textOnly Departure.lateStores }, { on := 9, ground := Ground.phase }], guard := none }) (fun _ _ => True) rfl (by decide) (fun _ _ _ _ _ => trivial) (fun v d T w' hb hj hd0 hd hdd hB K hK => ?sx11) ?rx11
  case sx11 =>
    have e13 := (hdd 9 (by kernel_rfl)).2 13 rfl
    have e63 := (hdd 7 (by kernel_rfl)).2 63 rfl
    rw [if_pos (wanted_none _ rfl)]
    have ea := (hdd 9 (by kernel_rfl)).1
    have xx := (hdd 7 (by kernel_rfl)).1
    obtain ⟨Ax, cx, yx, hlx, hFx⟩ := hj.2.1 (7, TermF k30 r (fun _ => True)) (by simp) xx
    have vx := (hdd 7 (by kernel_rfl)).2 63 rfl
    obtain ⟨g, va, hge, hlt, hbx⟩ := hj.2.2.1 ea
    rw [if_neg (by rw [hd0]; decide)] at hbx
    replace e13 := e13.trans va
    replace e63 := e63.trans yx
    have q0 : w'.cell? ⟨g, 0, none⟩ = some (.int .i64 0) := (blk_cell hbx 0).trans rfl
    have q1 : w'.cell? ⟨g, 1, none⟩ = some (.slice none 0 0) := (blk_cell hbx 1).trans rfl
    have z0 := blk_frozen hbx 0
    have z1 := blk_frozen hbx 1
    have hd0' := Aside0.mk hd0
    have yx' := Aside0.mk yx
    have va' := Aside0.mk va
    clear hd hdd hB vx hd0 yx va
    go_simp
    refine hK undef _ trivial ((hb.setCell hge _).setCell hge _) trivial (RetJ.store hj hd0'.out (by decide) (by decide) (by intro q hq; simp only [List.mem_cons, List.not_mem_nil, or_false] at hq; rcases hq with rfl | rfl | rfl <;> simp) ea xx va'.out ?_ (fun k hk => setCell2_far k hk) (by rw [setCell_size, setCell_size]))
    refine (blk_set (blk_set hbx 0 _) 1 _).trans ?_
    rw [yx'.out]
    rfl
  refine DetJ.is (o := { dst := some 14, op := Op.assign (Operand.tmp 64), type := 4, pos := "law.go:106", after := #[{ on := 8, ground := Ground.data }, { on := 10, ground := Ground.chain }, { on := 0, ground := Ground.phase }, { on := 1, ground := Ground.phase }, { on := 2, ground := Ground.phase }, { on := 3, ground := Ground.phase }, { on := 4, ground := Ground.phase }, { on := 5, ground := Ground.phase }, { on := 6, ground := Ground.phase }, { on := 7, ground := Ground.phase }, { on := 8, ground := Ground.phase }, { on := 9, ground := Ground.phase }, { on := 10, ground := Ground.phase }], guard := none }) (u := ?ux12) (fun _ _ _ => trivial) [5, 6, 7, 9, 10] hJo rfl (by decide) (by decide) (fun T w' hb hd hB K hK => ?sx12) ?rx12
  case sx12 =>
    have e64 := hd 8 64 _ (by decide) (by kernel_rfl) rfl rfl
    replace e64 : T.getD 64 undef = _ := e64
    rw [if_pos (wanted_none _ rfl)]
    clear hd hB
    go_simp
    exact hK _ (Below.refl _ _)
  refine DetJ.done [some 57, some 58, some 59, some 60, some 61, some 62, some 56, some 63, some 64, some 13, none, some 14] (by kernel_rfl) rfl rfl ?_
  intro v d w' hb hv hall hj
  obtain ⟨g, A', c', h1, h2, h3, h4, h5⟩ := RetJ.box hj (x := r) (kd := k30) (by simp; rfl) (hall 9 (by decide)) (hall 10 (by decide)) (hall 7 (by decide))
  exact hK v w' g A' c' hb (hv 11 _ (by decide) rfl) h1 h2 h3 h4 (Kd.F_mono h5 (fun k hk => hk.2))
set_option maxHeartbeats 4000000 in
set_option maxRecDepth 100000 in
theorem TermPlaces_r17 {id : Nat} {a : Act} {w : World} {Q : Exit → Act → World → Prop} {i : Int} {ga gu m cl lq cq : Nat} {xf xl yf yl : Value} {r ut : S30} {b : Bool} {ad : Addr} {Aq : Option Addr}
    (hr : regionOk #[{ dst := some 83, op := Op.load 30 (Operand.tmp 9), type := 30, pos := "law.go:112", after := #[], guard := none }, { dst := some 84, op := Op.move (Operand.tmp 10), type := 32, pos := "law.go:112", after := #[], guard := none }, { dst := some 85, op := Op.move (Operand.tmp 15), type := 3, pos := "law.go:112", after := #[], guard := none }, { dst := some 86, op := Op.indexAddr 32 (Operand.tmp 84) (Operand.tmp 85), type := 0, pos := "law.go:112", after := #[{ on := 1, ground := Ground.data }, { on := 2, ground := Ground.data }], guard := none }, { dst := some 87, op := Op.load 25 (Operand.tmp 86), type := 25, pos := "law.go:112", after := #[{ on := 3, ground := Ground.data }], guard := none }, { dst := some 88, op := Op.load 24 (Operand.tmp 5), type := 24, pos := "law.go:112", after := #[], guard := none }, { dst := some 89, op := Op.call { callee := Callee.value (Operand.func 22), args := #[Operand.tmp 88], argTypes := #[24] }, type := 30, pos := "law.go:112", after := #[{ on := 5, ground := Ground.data }], guard := none }, { dst := some 90, op := Op.call { callee := Callee.value (Operand.func 30), args := #[Operand.tmp 83, Operand.tmp 87, Operand.tmp 89], argTypes := #[30, 25, 30] }, type := 37, pos := "law.go:112", after := #[{ on := 0, ground := Ground.data }, { on := 4, ground := Ground.data }, { on := 6, ground := Ground.data }, { on := 6, ground := Ground.chain }], guard := none }, { dst := some 82, op := Op.move (Operand.tmp 90), type := 37, pos := "law.go:112", after := #[{ on := 7, ground := Ground.data }], guard := none }, { dst := some 91, op := Op.extract (Operand.tmp 82) 0, type := 30, pos := "law.go:112", after := #[{ on := 8, ground := Ground.data }], guard := none }, { dst := some 92, op := Op.extract (Operand.tmp 82) 1, type := 4, pos := "law.go:112", after := #[{ on := 8, ground := Ground.data }, { on := 12, ground := Ground.gcOnly Departure.lateStores }], guard := none }, { dst := some 16, op := Op.alloc 30, type := 0, pos := "law.go:112", after := #[], guard := none }, { dst := none, op := Op.store 30 (Operand.tmp 16) (Operand.tmp 91), type := 0, pos := "law.go:112", after := #[{ on := 11, ground := Ground.data }, { on := 9, ground := Ground.data }, { on := 7, ground := Ground.chain }, { on := 0, ground := Ground.phase }, { on := 1, ground := Ground.phase }, { on := 2, ground := Ground.phase }, { on := 3, ground := Ground.phase }, { on := 4, ground := Ground.phase }, { on := 5, ground := Ground.phase }, { on := 6, ground := Ground.phase }, { on := 7, ground := Ground.phase }, { on := 8, ground := Ground.phase }, { on := 9, ground := Ground.phase }, { on := 10, ground := Ground.textOnly Departure.lateStores }, { on := 11, ground := Ground.phase }], guard := none }, { dst := some 17, op := Op.assign (Operand.tmp 92), type := 4, pos := "law.go:112", after := #[{ on := 10, ground := Ground.data }, { on := 12, ground := Ground.chain }, { on := 0, ground := Ground.phase }, { on := 1, ground := Ground.phase }, { on := 2, ground := Ground.phase }, { on := 3, ground := Ground.phase }, { on := 4, ground := Ground.phase }, { on := 5, ground := Ground.phase }, { on := 6, ground := Ground.phase }, { on := 7, ground := Ground.phase }, { on := 8, ground := Ground.phase }, { on := 9, ground := Ground.phase }, { on := 10, ground := Ground.phase }, { on := 11, ground := Ground.phase }, { on := 12, ground := Ground.phase }], guard := none }] a.tmps.size = true)
    (hT10 : a.tmps.getD 10 undef = .slice (some ad) m cl)
    (hT15 : a.tmps.getD 15 undef = .int .i64 i)
    (hT9 : a.tmps.getD 9 undef = .pointer (some ⟨ga, 0, none⟩)) (hX9 : w.heap[ga]? = some (.cells #[xf, xl] 30 (0, 0)))
    (hT5 : a.tmps.getD 5 undef = .pointer (some ⟨gu, 0, none⟩)) (hX5 : w.heap[gu]? = some (.cells #[yf, yl] 24 (0, 0)))
    (hi : 0 ≤ i ∧ i < m) (hc0 : w.cell? (ad.add i.toNat) = some (.slice Aq lq cq))
    (hO : ∀ w1, Below w.heap.size w w1 → Calls Try.prog 22 #[.agg #[yf, yl]] w1 fun e w2 => ∃ A' c', e = .returned (.agg #[.int .i64 ut.f0, .slice A' ut.f1.length c']) ∧ ut.f1.length ≤ c' ∧ Kd.F k30 w2 (fun k => w1.heap.size ≤ k) A' ut.f1.length ut.f1 ∧ Below w1.heap.size w1 w2)
    (hP : ∀ w1 A c ok, Below w.heap.size w w1 → ut.f1.length ≤ c → Kd.F k30 w1 ok A ut.f1.length ut.f1 → Calls Try.prog 30 #[.agg #[xf, xl], .slice Aq lq cq, .agg #[.int .i64 ut.f0, .slice A ut.f1.length c]] w1 fun e w2 => ∃ A' c', e = .returned (.tuple #[.agg #[.int .i64 r.f0, .slice A' r.f1.length c'], .bool b]) ∧ r.f1.length ≤ c' ∧ Kd.F k30 w2 (fun k => (k < w.heap.size ∨ ok k) ∨ w1.heap.size ≤ k) A' r.f1.length r.f1 ∧ Below w1.heap.size w1 w2)
    (hK : ∀ v w' g A' c', Below w.heap.size w w' → v 13 = .bool b → v 11 = .pointer (some ⟨g, 0, none⟩) → w.heap.size ≤ g → w'.heap[g]? = some (.cells #[.int .i64 r.f0, .slice A' r.f1.length c'] 30 (0, 0)) → r.f1.length ≤ c' → Kd.F k30 w' (fun k => k ≠ g) A' r.f1.length r.f1 → Q .normal { tmps := layL [some 83, some 84, some 85, some 86, some 87, some 88, some 89, some 90, some 82, some 91, some 92, some 16, none, some 17] 0 v a.tmps, defers := a.defers } w') :
    (Code.region id #[{ dst := some 83, op := Op.load 30 (Operand.tmp 9), type := 30, pos := "law.go:112", after := #[], guard := none }, { dst := some 84, op := Op.move (Operand.tmp 10), type := 32, pos := "law.go:112", after := #[], guard := none }, { dst := some 85, op := Op.move (Operand.tmp 15), type := 3, pos := "law.go:112", after := #[], guard := none }, { dst := some 86, op := Op.indexAddr 32 (Operand.tmp 84) (Operand.tmp 85), type := 0, pos := "law.go:112", after := #[{ on := 1, ground := Ground.data }, { on := 2, ground := Ground.data }], guard := none }, { dst := some 87, op := Op.load 25 (Operand.tmp 86), type := 25, pos := "law.go:112", after := #[{ on := 3, ground := Ground.data }], guard := none }, { dst := some 88, op := Op.load 24 (Operand.tmp 5), type := 24, pos := "law.go:112", after := #[], guard := none }, { dst := some 89, op := Op.call { callee := Callee.value (Operand.func 22), args := #[Operand.tmp 88], argTypes := #[24] }, type := 30, pos := "law.go:112", after := #[{ on := 5, ground := Ground.data }], guard := none }, { dst := some 90, op := Op.call { callee := Callee.value (Operand.func 30), args := #[Operand.tmp 83, Operand.tmp 87, Operand.tmp 89], argTypes := #[30, 25, 30] }, type := 37, pos := "law.go:112", after := #[{ on := 0, ground := Ground.data }, { on := 4, ground := Ground.data }, { on := 6, ground := Ground.data }, { on := 6, ground := Ground.chain }], guard := none }, { dst := some 82, op := Op.move (Operand.tmp 90), type := 37, pos := "law.go:112", after := #[{ on := 7, ground := Ground.data }], guard := none }, { dst := some 91, op := Op.extract (Operand.tmp 82) 0, type := 30, pos := "law.go:112", after := #[{ on := 8, ground := Ground.data }], guard := none }, { dst := some 92, op := Op.extract (Operand.tmp 82) 1, type := 4, pos := "law.go:112", after := #[{ on := 8, ground := Ground.data }, { on := 12, ground := Ground.gcOnly Departure.lateStores }], guard := none }, { dst := some 16, op := Op.alloc 30, type := 0, pos := "law.go:112", after := #[], guard := none }, { dst := none, op := Op.store 30 (Operand.tmp 16) (Operand.tmp 91), type := 0, pos := "law.go:112", after := #[{ on := 11, ground := Ground.data }, { on := 9, ground := Ground.data }, { on := 7, ground := Ground.chain }, { on := 0, ground := Ground.phase }, { on := 1, ground := Ground.phase }, { on := 2, ground := Ground.phase }, { on := 3, ground := Ground.phase }, { on := 4, ground := Ground.phase }, { on := 5, ground := Ground.phase }, { on := 6, ground := Ground.phase }, { on := 7, ground := Ground.phase }, { on := 8, ground := Ground.phase }, { on := 9, ground := Ground.phase }, { on := 10, ground := Ground.textOnly Departure.lateStores }, { on := 11, ground := Ground.phase }], guard := none }, { dst := some 17, op := Op.assign (Operand.tmp 92), type := 4, pos := "law.go:112", after := #[{ on := 10, ground := Ground.data }, { on := 12, ground := Ground.chain }, { on := 0, ground := Ground.phase }, { on := 1, ground := Ground.phase }, { on := 2, ground := Ground.phase }, { on := 3, ground := Ground.phase }, { on := 4, ground := Ground.phase }, { on := 5, ground := Ground.phase }, { on := 6, ground := Ground.phase }, { on := 7, ground := Ground.phase }, { on := 8, ground := Ground.phase }, { on := 9, ground := Ground.phase }, { on := 10, ground := Ground.phase }, { on := 11, ground := Ground.phase }, { on := 12, ground := Ground.phase }], guard := none }] true).wp Try.prog Q a w := by
  have hmx : Try.prog.follows .mixedOrders = true := by kernel_rfl
  have hJo : ∀ i, i ∉ [6, 7, 8, 9, 11, 12] → ∀ v d (w1 w2 : World) u, (RetJ w.heap.size 30 [(6, TermF k30 ut (fun _ => True)), (7, TupF k30 r b (fun _ => True)), (8, TupF k30 r b (fun _ => True)), (9, TermF k30 r (fun _ => True))] 11 12 9) v d w1 → d i = false → Below w1.heap.size w1 w2 → (RetJ w.heap.size 30 [(6, TermF k30 ut (fun _ => True)), (7, TupF k30 r b (fun _ => True)), (8, TupF k30 r b (fun _ => True)), (9, TermF k30 r (fun _ => True))] 11 12 9) (upd v i u) (upd d i true) w2 := fun i hi v d w1 w2 u h hd hb => RetJ.val h hd (fun e => hi (by simp [← e])) (fun e => hi (by simp [← e])) hb (fun q hq e => absurd (by simp only [List.mem_cons, List.not_mem_nil, or_false] at hq; rcases hq with rfl | rfl | rfl | rfl <;> simp [← e]) hi)
  refine region_detJ (fun _ _ => True) (RetJ w.heap.size 30 [(6, TermF k30 ut (fun _ => True)), (7, TupF k30 r b (fun _ => True)), (8, TupF k30 r b (fun _ => True)), (9, TermF k30 r (fun _ => True))] 11 12 9) 14 (trivial) (fun v => RetJ.start w.drew (Nat.le_refl w.heap.size) v) hmx hr rfl ?_
  refine DetJ.is (o := { dst := some 83, op := Op.load 30 (Operand.tmp 9), type := 30, pos := "law.go:112", after := #[], guard := none }) (u := ?ux13) (fun _ _ _ => trivial) [6, 7, 8, 9, 11, 12] hJo rfl (by decide) (by decide) (fun T w' hb hd hB K hK => ?sx13) ?rx13
  case sx13 =>
    have e9 := (hB 9 (by kernel_rfl)).trans hT9
    have q9_0 : w'.cell? ⟨ga, 0, none⟩ = some (xf) := (blk_cell (blk_below hX9 hb) 0).trans rfl
    have q9_1 : w'.cell? ⟨ga, 1, none⟩ = some (xl) := (blk_cell (blk_below hX9 hb) 1).trans rfl
    rw [if_pos (wanted_none _ rfl)]
    clear hd hB
    go_simp
    exact hK _ (Below.refl _ _)
  refine DetJ.is (o := { dst := some 84, op := Op.move (Operand.tmp 10), type := 32, pos := "law.go:112", after := #[], guard := none }) (u := ?ux14) (fun _ _ _ => trivial) [6, 7, 8, 9, 11, 12] hJo rfl (by decide) (by decide) (fun T w' hb hd hB K hK => ?sx14) ?rx14
  case sx14 =>
    have e10 := (hB 10 (by kernel_rfl)).trans hT10
    rw [if_pos (wanted_none _ rfl)]
    clear hd hB
    go_simp
    exact hK _ (Below.refl _ _)
  refine DetJ.is (o := { dst := some 85, op := Op.move (Operand.tmp 15), type := 3, pos := "law.go:112", after := #[], guard := none }) (u := ?ux15) (fun _ _ _ => trivial) [6, 7, 8, 9, 11, 12] hJo rfl (by decide) (by decide) (fun T w' hb hd hB K hK => ?sx15) ?rx15
  case sx15 =>
    have e15 := (hB 15 (by kernel_rfl)).trans hT15
    rw [if_pos (wanted_none _ rfl)]
    clear hd hB
    go_simp
    exact hK _ (Below.refl _ _)
  refine DetJ.is (o := { dst := some 86, op := Op.indexAddr 32 (Operand.tmp 84) (Operand.tmp 85), type := 0, pos := "law.go:112", after := #[{ on := 1, ground := Ground.data }, { on := 2, ground := Ground.data }], guard := none }) (u := .pointer (some (ad.add i.toNat))) (fun _ _ _ => trivial) [6, 7, 8, 9, 11, 12] hJo rfl (by decide) (by decide) (fun T w' hb hd hB K hK => ?sx16) ?rx16
  case sx16 =>
    have e84 := hd 1 84 _ (by decide) (by kernel_rfl) rfl rfl
    replace e84 : T.getD 84 undef = _ := e84
    have e85 := hd 2 85 _ (by decide) (by kernel_rfl) rfl rfl
    replace e85 : T.getD 85 undef = _ := e85
    rw [if_pos (wanted_none _ rfl)]
    have hi0 := hi.1
    have hi1 := hi.2
    clear hd hB
    go_simp
    exact hK _ (Below.refl _ _)
  refine DetJ.is (o := { dst := some 87, op := Op.load 25 (Operand.tmp 86), type := 25, pos := "law.go:112", after := #[{ on := 3, ground := Ground.data }], guard := none }) (u := ?ux17) (fun _ _ _ => trivial) [6, 7, 8, 9, 11, 12] hJo rfl (by decide) (by decide) (fun T w' hb hd hB K hK => ?sx17) ?rx17
  case sx17 =>
    have e86 := hd 3 86 _ (by decide) (by kernel_rfl) rfl rfl
    replace e86 : T.getD 86 undef = _ := e86
    rw [if_pos (wanted_none _ rfl)]
    have hc0' := (hb.cell (cell_lt' hc0)).trans hc0
    clear hd hB
    go_simp
    exact hK _ (Below.refl _ _)
  refine DetJ.is (o := { dst := some 88, op := Op.load 24 (Operand.tmp 5), type := 24, pos := "law.go:112", after := #[], guard := none }) (u := ?ux18) (fun _ _ _ => trivial) [6, 7, 8, 9, 11, 12] hJo rfl (by decide) (by decide) (fun T w' hb hd hB K hK => ?sx18) ?rx18
  case sx18 =>
    have e5 := (hB 5 (by kernel_rfl)).trans hT5
    have q5_0 : w'.cell? ⟨gu, 0, none⟩ = some (yf) := (blk_cell (blk_below hX5 hb) 0).trans rfl
    have q5_1 : w'.cell? ⟨gu, 1, none⟩ = some (yl) := (blk_cell (blk_below hX5 hb) 1).trans rfl
    rw [if_pos (wanted_none _ rfl)]
    clear hd hB
    go_simp
    exact hK _ (Below.refl _ _)
  refine DetJ.cons (o := { dst := some 89, op := Op.call { callee := Callee.value (Operand.func 22), args := #[Operand.tmp 88], argTypes := #[24] }, type := 30, pos := "law.go:112", after := #[{ on := 5, ground := Ground.data }], guard := none }) (fun _ _ => True) rfl (by decide) (fun _ _ _ _ _ => trivial) (fun v d T w' hb hj hd0 hd hdd hB K hK => ?sx19) ?rx19
  case sx19 =>
    have e88 := hd 5 88 _ (by decide) (by kernel_rfl) rfl rfl
    replace e88 : T.getD 88 undef = _ := e88
    rw [if_pos (wanted_none _ rfl)]
    have hcl := hO w' hb
    clear hd hdd hB
    go_simp
    go_at_call 22
    refine hcl.mono ?_
    rintro e w2 ⟨A', c', rfl, hl', hF', hb'⟩
    have hfp : (TermF k30 ut (fun _ => True)).p (fun k => okF 11 v d k ∨ w'.heap.size ≤ k) (.agg #[.int .i64 ut.f0, .slice A' ut.f1.length c']) w2 := ⟨_, _, rfl, hl', Kd.F_mono hF' (fun k hk => ⟨.inr hk, trivial⟩)⟩
    exact hK _ _ trivial (hb.trans (hb'.mono hb.size)) trivial (RetJ.val hj hd0 (by decide) (by decide) hb' (fun q hq e => by simp only [List.mem_cons, List.not_mem_nil, or_false] at hq; rcases hq with rfl | rfl | rfl | rfl <;> first | exact hfp | exact absurd e (by simp)))
  refine DetJ.cons (o := { dst := some 90, op := Op.call { callee := Callee.value (Operand.func 30), args := #[Operand.tmp 83, Operand.tmp 87, Operand.tmp 89], argTypes := #[30, 25, 30] }, type := 37, pos := "law.go:112", after := #[{ on := 0, ground := Ground.data }, { on := 4, ground := Ground.data }, { on := 6, ground := Ground.data }, { on := 6, ground := Ground.chain }], guard := none }) (fun _ _ => True) rfl (by decide) (fun _ _ _ _ _ => trivial) (fun v d T w' hb hj hd0 hd hdd hB K hK => ?sx20) ?rx20
  case sx20 =>
    have e83 := hd 0 83 _ (by decide) (by kernel_rfl) rfl rfl
    replace e83 : T.getD 83 undef = _ := e83
    have e87 := hd 4 87 _ (by decide) (by kernel_rfl) rfl rfl
    replace e87 : T.getD 87 undef = _ := e87
    have e89 := (hdd 6 (by kernel_rfl)).2 89 rfl
    rw [if_pos (wanted_none _ rfl)]
    have xu := (hdd 6 (by kernel_rfl)).1
    obtain ⟨Au, cu, yu, hlu, hFu⟩ := hj.2.1 (6, TermF k30 ut (fun _ => True)) (by simp) xu
    replace e89 := e89.trans yu
    have hcl := hP w' Au cu _ hb hlu hFu
    clear hd hdd hB
    go_simp
    go_at_call 30
    refine hcl.mono ?_
    rintro e w2 ⟨A', c', rfl, hl', hF', hb'⟩
    have hfp : (TupF k30 r b (fun _ => True)).p (fun k => okF 11 v d k ∨ w'.heap.size ≤ k) (.tuple #[.agg #[.int .i64 r.f0, .slice A' r.f1.length c'], .bool b]) w2 := ⟨_, _, rfl, hl', Kd.F_mono hF' (fun k hk => ⟨hk.elim (fun h => h.elim (fun h => .inl (RetJ.old hj h)) (fun h => .inl h.1)) .inr, trivial⟩)⟩
    exact hK _ _ trivial (hb.trans (hb'.mono hb.size)) trivial (RetJ.val hj hd0 (by decide) (by decide) hb' (fun q hq e => by simp only [List.mem_cons, List.not_mem_nil, or_false] at hq; rcases hq with rfl | rfl | rfl | rfl <;> first | exact hfp | exact absurd e (by simp)))
  refine DetJ.cons (o := { dst := some 82, op := Op.move (Operand.tmp 90), type := 37, pos := "law.go:112", after := #[{ on := 7, ground := Ground.data }], guard := none }) (fun _ _ => True) rfl (by decide) (fun _ _ _ _ _ => trivial) (fun v d T w' hb hj hd0 hd hdd hB K hK => ?sx21) ?rx21
  case sx21 =>
    have e90 := (hdd 7 (by kernel_rfl)).2 90 rfl
    rw [if_pos (wanted_none _ rfl)]
    have xq := (hdd 7 (by kernel_rfl)).1
    obtain ⟨Aq, cq, yq, hlq, hFq⟩ := hj.2.1 (7, TupF k30 r b (fun _ => True)) (by simp) xq
    replace e90 := e90.trans yq
    clear hd hdd hB
    go_simp
    exact hK _ _ trivial hb trivial (RetJ.val hj hd0 (by decide) (by decide) (Below.refl _ _) (fun q hq e => by simp only [List.mem_cons, List.not_mem_nil, or_false] at hq; rcases hq with rfl | rfl | rfl | rfl <;> first | exact ⟨_, _, rfl, hlq, Kd.F_mono hFq (fun k hk => ⟨.inl hk.1, trivial⟩)⟩ | exact absurd e (by simp)))
  refine DetJ.cons (o := { dst := some 91, op := Op.extract (Operand.tmp 82) 0, type := 30, pos := "law.go:112", after := #[{ on := 8, ground := Ground.data }], guard := none }) (fun _ _ => True) rfl (by decide) (fun _ _ _ _ _ => trivial) (fun v d T w' hb hj hd0 hd hdd hB K hK => ?sx22) ?rx22
  case sx22 =>
    have e82 := (hdd 8 (by kernel_rfl)).2 82 rfl
    rw [if_pos (wanted_none _ rfl)]
    have xq := (hdd 8 (by kernel_rfl)).1
    obtain ⟨Aq, cq, yq, hlq, hFq⟩ := hj.2.1 (8, TupF k30 r b (fun _ => True)) (by simp) xq
    replace e82 := e82.trans yq
    clear hd hdd hB
    go_simp
    exact hK _ _ trivial hb trivial (RetJ.val hj hd0 (by decide) (by decide) (Below.refl _ _) (fun q hq e => by simp only [List.mem_cons, List.not_mem_nil, or_false] at hq; rcases hq with rfl | rfl | rfl | rfl <;> first | exact ⟨_, _, rfl, hlq, Kd.F_mono hFq (fun k hk => ⟨.inl hk.1, trivial⟩)⟩ | exact absurd e (by simp)))
  refine DetJ.cons (o := { dst := some 92, op := Op.extract (Operand.tmp 82) 1, type := 4, pos := "law.go:112", after := #[{ on := 8, ground := Ground.data }, { on := 12, ground := Ground.gcOnly Departure.lateStores }], guard := none }) (Told.is (.bool b)) rfl (by decide) (fun _ _ _ h _ => h) (fun v d T w' hb hj hd0 hd hdd hB K hK => ?sx23) ?rx23
  case sx23 =>
    have e82 := (hdd 8 (by kernel_rfl)).2 82 rfl
    rw [if_pos (wanted_none _ rfl)]
    have xq := (hdd 8 (by kernel_rfl)).1
    obtain ⟨Aq, cq, yq, hlq, hFq⟩ := hj.2.1 (8, TupF k30 r b (fun _ => True)) (by simp) xq
    replace e82 := e82.trans yq
    clear hd hdd hB
    go_simp
    exact hK _ _ trivial hb rfl (RetJ.val hj hd0 (by decide) (by decide) (Below.refl _ _) (fun q hq e => by simp only [List.mem_cons, List.not_mem_nil, or_false] at hq; rcases hq with rfl | rfl | rfl | rfl <;> first | exact absurd e (by simp) | exact absurd e (by simp)))
  refine DetJ.cons (o := { dst := some 16, op := Op.alloc 30, type := 0, pos := "law.go:112", after := #[], guard := none }) (fun _ _ => True) rfl (by decide) (fun _ _ _ _ _ => trivial) (fun v d T w' hb hj hd0 hd hdd hB K hK => ?sx24) ?rx24
  case sx24 =>
    rw [if_pos (wanted_none _ rfl)]
    clear hd hdd hB
    go_simp
    exact hK _ _ trivial (below_alloc hb _) trivial (RetJ.alloc hj hd0 (by decide) (by decide) (by intro q hq; simp only [List.mem_cons, List.not_mem_nil, or_false] at hq; rcases hq with rfl | rfl | rfl | rfl <;> simp))
  refine DetJ.cons (o := { dst := none, op := Op.store 30 (Operand.tmp 16) (Operand.tmp 91), type := 0, pos := "law.go:112", after := #[{ on := 11, ground := Ground.data }, { on := 9, ground := Ground.data }, { on := 7, ground := Ground.chain }, { on := 0, ground := Ground.phase }, { on := 1, ground := Ground.phase }, { on := 2, ground := Ground.phase }, { on := 3, ground := Ground.phase }, { on := 4, ground := Ground.phase }, { on := 5, ground := Ground.phase }, { on := 6, ground := Ground.phase }, { on := 7, ground := Ground.phase }, { on := 8, ground := Ground.phase }, { on := 9, ground := Ground.phase }, { on := 10, ground := Ground.textOnly Departure.lateStores }, { on := 11, ground := Ground.phase }], guard := none }) (fun _ _ => True) rfl (by decide) (fun _ _ _ _ _ => trivial) (fun v d T w' hb hj hd0 hd hdd hB K hK => ?sx25) ?rx25
  case sx25 =>
    have e16 := (hdd 11 (by kernel_rfl)).2 16 rfl
    have e91 := (hdd 9 (by kernel_rfl)).2 91 rfl
    rw [if_pos (wanted_none _ rfl)]
    have ea := (hdd 11 (by kernel_rfl)).1
    have xx := (hdd 9 (by kernel_rfl)).1
    obtain ⟨Ax, cx, yx, hlx, hFx⟩ := hj.2.1 (9, TermF k30 r (fun _ => True)) (by simp) xx
    have vx := (hdd 9 (by kernel_rfl)).2 91 rfl
    obtain ⟨g, va, hge, hlt, hbx⟩ := hj.2.2.1 ea
    rw [if_neg (by rw [hd0]; decide)] at hbx
    replace e16 := e16.trans va
    replace e91 := e91.trans yx
    have q0 : w'.cell? ⟨g, 0, none⟩ = some (.int .i64 0) := (blk_cell hbx 0).trans rfl
    have q1 : w'.cell? ⟨g, 1, none⟩ = some (.slice none 0 0) := (blk_cell hbx 1).trans rfl
    have z0 := blk_frozen hbx 0
    have z1 := blk_frozen hbx 1
    have hd0' := Aside0.mk hd0
    have yx' := Aside0.mk yx
    have va' := Aside0.mk va
    clear hd hdd hB vx hd0 yx va
    go_simp
    refine hK undef _ trivial ((hb.setCell hge _).setCell hge _) trivial (RetJ.store hj hd0'.out (by decide) (by decide) (by intro q hq; simp only [List.mem_cons, List.not_mem_nil, or_false] at hq; rcases hq with rfl | rfl | rfl | rfl <;> simp) ea xx va'.out ?_ (fun k hk => setCell2_far k hk) (by rw [setCell_size, setCell_size]))
    refine (blk_set (blk_set hbx 0 _) 1 _).trans ?_
    rw [yx'.out]
    rfl
  refine DetJ.is (o := { dst := some 17, op := Op.assign (Operand.tmp 92), type := 4, pos := "law.go:112", after := #[{ on := 10, ground := Ground.data }, { on := 12, ground := Ground.chain }, { on := 0, ground := Ground.phase }, { on := 1, ground := Ground.phase }, { on := 2, ground := Ground.phase }, { on := 3, ground := Ground.phase }, { on := 4, ground := Ground.phase }, { on := 5, ground := Ground.phase }, { on := 6, ground := Ground.phase }, { on := 7, ground := Ground.phase }, { on := 8, ground := Ground.phase }, { on := 9, ground := Ground.phase }, { on := 10, ground := Ground.phase }, { on := 11, ground := Ground.phase }, { on := 12, ground := Ground.phase }], guard := none }) (u := ?ux26) (fun _ _ _ => trivial) [6, 7, 8, 9, 11, 12] hJo rfl (by decide) (by decide) (fun T w' hb hd hB K hK => ?sx26) ?rx26
  case sx26 =>
    have e92 := hd 10 92 _ (by decide) (by kernel_rfl) rfl rfl
    replace e92 : T.getD 92 undef = _ := e92
    rw [if_pos (wanted_none _ rfl)]
    clear hd hB
    go_simp
    exact hK _ (Below.refl _ _)
  refine DetJ.done [some 83, some 84, some 85, some 86, some 87, some 88, some 89, some 90, some 82, some 91, some 92, some 16, none, some 17] (by kernel_rfl) rfl rfl ?_
  intro v d w' hb hv hall hj
  obtain ⟨g, A', c', h1, h2, h3, h4, h5⟩ := RetJ.box hj (x := r) (kd := k30) (by simp; rfl) (hall 11 (by decide)) (hall 12 (by decide)) (hall 9 (by decide))
  exact hK v w' g A' c' hb (hv 13 _ (by decide) rfl) h1 h2 h3 h4 (Kd.F_mono h5 (fun k hk => hk.2))
set_option maxHeartbeats 4000000 in
set_option maxRecDepth 100000 in
theorem TermPlaces_r27 {id : Nat} {a : Act} {w : World} {Q : Exit → Act → World → Prop} {ga gu lq cq : Nat} {xf xl yf yl : Value} {r ut : S30} {b : Bool} {Aq : Option Addr}
    (hr : regionOk #[{ dst := some 140, op := Op.load 30 (Operand.tmp 9), type := 30, pos := "law.go:122", after := #[], guard := none }, { dst := some 141, op := Op.move (Operand.tmp 3), type := 25, pos := "law.go:122", after := #[], guard := none }, { dst := some 142, op := Op.load 24 (Operand.tmp 5), type := 24, pos := "law.go:122", after := #[], guard := none }, { dst := some 143, op := Op.call { callee := Callee.value (Operand.func 22), args := #[Operand.tmp 142], argTypes := #[24] }, type := 30, pos := "law.go:122", after := #[{ on := 2, ground := Ground.data }], guard := none }, { dst := some 144, op := Op.call { callee := Callee.value (Operand.func 30), args := #[Operand.tmp 140, Operand.tmp 141, Operand.tmp 143], argTypes := #[30, 25, 30] }, type := 37, pos := "law.go:122", after := #[{ on := 0, ground := Ground.data }, { on := 1, ground := Ground.data }, { on := 3, ground := Ground.data }, { on := 3, ground := Ground.chain }], guard := none }, { dst := some 139, op := Op.move (Operand.tmp 144), type := 37, pos := "law.go:122", after := #[{ on := 4, ground := Ground.data }], guard := none }, { dst := some 145, op := Op.extract (Operand.tmp 139) 0, type := 30, pos := "law.go:122", after := #[{ on := 5, ground := Ground.data }], guard := none }, { dst := some 146, op := Op.extract (Operand.tmp 139) 1, type := 4, pos := "law.go:122", after := #[{ on := 5, ground := Ground.data }, { on := 9, ground := Ground.gcOnly Departure.lateStores }], guard := none }, { dst := some 24, op := Op.alloc 30, type := 0, pos := "law.go:122", after := #[], guard := none }, { dst := none, op := Op.store 30 (Operand.tmp 24) (Operand.tmp 145), type := 0, pos := "law.go:122", after := #[{ on := 8, ground := Ground.data }, { on := 6, ground := Ground.data }, { on := 4, ground := Ground.chain }, { on := 0, ground := Ground.phase }, { on := 1, ground := Ground.phase }, { on := 2, ground := Ground.phase }, { on := 3, ground := Ground.phase }, { on := 4, ground := Ground.phase }, { on := 5, ground := Ground.phase }, { on := 6, ground := Ground.phase }, { on := 7, ground := Ground.textOnly Departure.lateStores }, { on := 8, ground := Ground.phase }], guard := none }, { dst := some 25, op := Op.assign (Operand.tmp 146), type := 4, pos := "law.go:122", after := #[{ on := 7, ground := Ground.data }, { on := 9, ground := Ground.chain }, { on := 0, ground := Ground.phase }, { on := 1, ground := Ground.phase }, { on := 2, ground := Ground.phase }, { on := 3, ground := Ground.phase }, { on := 4, ground := Ground.phase }, { on := 5, ground := Ground.phase }, { on := 6, ground := Ground.phase }, { on := 7, ground := Ground.phase }, { on := 8, ground := Ground.phase }, { on := 9, ground := Ground.phase }], guard := none }] a.tmps.size = true)
    (hT3 : a.tmps.getD 3 undef = .slice Aq lq cq)
    (hT9 : a.tmps.getD 9 undef = .pointer (some ⟨ga, 0, none⟩)) (hX9 : w.heap[ga]? = some (.cells #[xf, xl] 30 (0, 0)))
    (hT5 : a.tmps.getD 5 undef = .pointer (some ⟨gu, 0, none⟩)) (hX5 : w.heap[gu]? = some (.cells #[yf, yl] 24 (0, 0)))
    (hO : ∀ w1, Below w.heap.size w w1 → Calls Try.prog 22 #[.agg #[yf, yl]] w1 fun e w2 => ∃ A' c', e = .returned (.agg #[.int .i64 ut.f0, .slice A' ut.f1.length c']) ∧ ut.f1.length ≤ c' ∧ Kd.F k30 w2 (fun k => w1.heap.size ≤ k) A' ut.f1.length ut.f1 ∧ Below w1.heap.size w1 w2)
    (hP : ∀ w1 A c ok, Below w.heap.size w w1 → ut.f1.length ≤ c → Kd.F k30 w1 ok A ut.f1.length ut.f1 → Calls Try.prog 30 #[.agg #[xf, xl], .slice Aq lq cq, .agg #[.int .i64 ut.f0, .slice A ut.f1.length c]] w1 fun e w2 => ∃ A' c', e = .returned (.tuple #[.agg #[.int .i64 r.f0, .slice A' r.f1.length c'], .bool b]) ∧ r.f1.length ≤ c' ∧ Kd.F k30 w2 (fun k => (k < w.heap.size ∨ ok k) ∨ w1.heap.size ≤ k) A' r.f1.length r.f1 ∧ Below w1.heap.size w1 w2)
    (hK : ∀ v w' g A' c', Below w.heap.size w w' → v 10 = .bool b → v 8 = .pointer (some ⟨g, 0, none⟩) → w.heap.size ≤ g → w'.heap[g]? = some (.cells #[.int .i64 r.f0, .slice A' r.f1.length c'] 30 (0, 0)) → r.f1.length ≤ c' → Kd.F k30 w' (fun k => k ≠ g) A' r.f1.length r.f1 → Q .normal { tmps := layL [some 140, some 141, some 142, some 143, some 144, some 139, some 145, some 146, some 24, none, some 25] 0 v a.tmps, defers := a.defers } w') :
    (Code.region id #[{ dst := some 140, op := Op.load 30 (Operand.tmp 9), type := 30, pos := "law.go:122", after := #[], guard := none }, { dst := some 141, op := Op.move (Operand.tmp 3), type := 25, pos := "law.go:122", after := #[], guard := none }, { dst := some 142, op := Op.load 24 (Operand.tmp 5), type := 24, pos := "law.go:122", after := #[], guard := none }, { dst := some 143, op := Op.call { callee := Callee.value (Operand.func 22), args := #[Operand.tmp 142], argTypes := #[24] }, type := 30, pos := "law.go:122", after := #[{ on := 2, ground := Ground.data }], guard := none }, { dst := some 144, op := Op.call { callee := Callee.value (Operand.func 30), args := #[Operand.tmp 140, Operand.tmp 141, Operand.tmp 143], argTypes := #[30, 25, 30] }, type := 37, pos := "law.go:122", after := #[{ on := 0, ground := Ground.data }, { on := 1, ground := Ground.data }, { on := 3, ground := Ground.data }, { on := 3, ground := Ground.chain }], guard := none }, { dst := some 139, op := Op.move (Operand.tmp 144), type := 37, pos := "law.go:122", after := #[{ on := 4, ground := Ground.data }], guard := none }, { dst := some 145, op := Op.extract (Operand.tmp 139) 0, type := 30, pos := "law.go:122", after := #[{ on := 5, ground := Ground.data }], guard := none }, { dst := some 146, op := Op.extract (Operand.tmp 139) 1, type := 4, pos := "law.go:122", after := #[{ on := 5, ground := Ground.data }, { on := 9, ground := Ground.gcOnly Departure.lateStores }], guard := none }, { dst := some 24, op := Op.alloc 30, type := 0, pos := "law.go:122", after := #[], guard := none }, { dst := none, op := Op.store 30 (Operand.tmp 24) (Operand.tmp 145), type := 0, pos := "law.go:122", after := #[{ on := 8, ground := Ground.data }, { on := 6, ground := Ground.data }, { on := 4, ground := Ground.chain }, { on := 0, ground := Ground.phase }, { on := 1, ground := Ground.phase }, { on := 2, ground := Ground.phase }, { on := 3, ground := Ground.phase }, { on := 4, ground := Ground.phase }, { on := 5, ground := Ground.phase }, { on := 6, ground := Ground.phase }, { on := 7, ground := Ground.textOnly Departure.lateStores }, { on := 8, ground := Ground.phase }], guard := none }, { dst := some 25, op := Op.assign (Operand.tmp 146), type := 4, pos := "law.go:122", after := #[{ on := 7, ground := Ground.data }, { on := 9, ground := Ground.chain }, { on := 0, ground := Ground.phase }, { on := 1, ground := Ground.phase }, { on := 2, ground := Ground.phase }, { on := 3, ground := Ground.phase }, { on := 4, ground := Ground.phase }, { on := 5, ground := Ground.phase }, { on := 6, ground := Ground.phase }, { on := 7, ground := Ground.phase }, { on := 8, ground := Ground.phase }, { on := 9, ground := Ground.phase }], guard := none }] true).wp Try.prog Q a w := by
  have hmx : Try.prog.follows .mixedOrders = true := by kernel_rfl
  have hJo : ∀ i, i ∉ [3, 4, 5, 6, 8, 9] → ∀ v d (w1 w2 : World) u, (RetJ w.heap.size 30 [(3, TermF k30 ut (fun _ => True)), (4, TupF k30 r b (fun _ => True)), (5, TupF k30 r b (fun _ => True)), (6, TermF k30 r (fun _ => True))] 8 9 6) v d w1 → d i = false → Below w1.heap.size w1 w2 → (RetJ w.heap.size 30 [(3, TermF k30 ut (fun _ => True)), (4, TupF k30 r b (fun _ => True)), (5, TupF k30 r b (fun _ => True)), (6, TermF k30 r (fun _ => True))] 8 9 6) (upd v i u) (upd d i true) w2 := fun i hi v d w1 w2 u h hd hb => RetJ.val h hd (fun e => hi (by simp [← e])) (fun e => hi (by simp [← e])) hb (fun q hq e => absurd (by simp only [List.mem_cons, List.not_mem_nil, or_false] at hq; rcases hq with rfl | rfl | rfl | rfl <;> simp [← e]) hi)
  refine region_detJ (fun _ _ => True) (RetJ w.heap.size 30 [(3, TermF k30 ut (fun _ => True)), (4, TupF k30 r b (fun _ => True)), (5, TupF k30 r b (fun _ => True)), (6, TermF k30 r (fun _ => True))] 8 9 6) 11 (trivial) (fun v => RetJ.start w.drew (Nat.le_refl w.heap.size) v) hmx hr rfl ?_
  refine DetJ.is (o := { dst := some 140, op := Op.load 30 (Operand.tmp 9), type := 30, pos := "law.go:122", after := #[], guard := none }) (u := ?ux27) (fun _ _ _ => trivial) [3, 4, 5, 6, 8, 9] hJo rfl (by decide) (by decide) (fun T w' hb hd hB K hK => ?sx27) ?rx27
  case sx27 =>
    have e9 := (hB 9 (by kernel_rfl)).trans hT9
    have q9_0 : w'.cell? ⟨ga, 0, none⟩ = some (xf) := (blk_cell (blk_below hX9 hb) 0).trans rfl
    have q9_1 : w'.cell? ⟨ga, 1, none⟩ = some (xl) := (blk_cell (blk_below hX9 hb) 1).trans rfl
    rw [if_pos (wanted_none _ rfl)]
    clear hd hB
    go_simp
    exact hK _ (Below.refl _ _)
  refine DetJ.is (o := { dst := some 141, op := Op.move (Operand.tmp 3), type := 25, pos := "law.go:122", after := #[], guard := none }) (u := ?ux28) (fun _ _ _ => trivial) [3, 4, 5, 6, 8, 9] hJo rfl (by decide) (by decide) (fun T w' hb hd hB K hK => ?sx28) ?rx28
  case sx28 =>
    have e3 := (hB 3 (by kernel_rfl)).trans hT3
    rw [if_pos (wanted_none _ rfl)]
    clear hd hB
    go_simp
    exact hK _ (Below.refl _ _)
  refine DetJ.is (o := { dst := some 142, op := Op.load 24 (Operand.tmp 5), type := 24, pos := "law.go:122", after := #[], guard := none }) (u := ?ux29) (fun _ _ _ => trivial) [3, 4, 5, 6, 8, 9] hJo rfl (by decide) (by decide) (fun T w' hb hd hB K hK => ?sx29) ?rx29
  case sx29 =>
    have e5 := (hB 5 (by kernel_rfl)).trans hT5
    have q5_0 : w'.cell? ⟨gu, 0, none⟩ = some (yf) := (blk_cell (blk_below hX5 hb) 0).trans rfl
    have q5_1 : w'.cell? ⟨gu, 1, none⟩ = some (yl) := (blk_cell (blk_below hX5 hb) 1).trans rfl
    rw [if_pos (wanted_none _ rfl)]
    clear hd hB
    go_simp
    exact hK _ (Below.refl _ _)
  refine DetJ.cons (o := { dst := some 143, op := Op.call { callee := Callee.value (Operand.func 22), args := #[Operand.tmp 142], argTypes := #[24] }, type := 30, pos := "law.go:122", after := #[{ on := 2, ground := Ground.data }], guard := none }) (fun _ _ => True) rfl (by decide) (fun _ _ _ _ _ => trivial) (fun v d T w' hb hj hd0 hd hdd hB K hK => ?sx30) ?rx30
  case sx30 =>
    have e142 := hd 2 142 _ (by decide) (by kernel_rfl) rfl rfl
    replace e142 : T.getD 142 undef = _ := e142
    rw [if_pos (wanted_none _ rfl)]
    have hcl := hO w' hb
    clear hd hdd hB
    go_simp
    go_at_call 22
    refine hcl.mono ?_
    rintro e w2 ⟨A', c', rfl, hl', hF', hb'⟩
    have hfp : (TermF k30 ut (fun _ => True)).p (fun k => okF 8 v d k ∨ w'.heap.size ≤ k) (.agg #[.int .i64 ut.f0, .slice A' ut.f1.length c']) w2 := ⟨_, _, rfl, hl', Kd.F_mono hF' (fun k hk => ⟨.inr hk, trivial⟩)⟩
    exact hK _ _ trivial (hb.trans (hb'.mono hb.size)) trivial (RetJ.val hj hd0 (by decide) (by decide) hb' (fun q hq e => by simp only [List.mem_cons, List.not_mem_nil, or_false] at hq; rcases hq with rfl | rfl | rfl | rfl <;> first | exact hfp | exact absurd e (by simp)))
  refine DetJ.cons (o := { dst := some 144, op := Op.call { callee := Callee.value (Operand.func 30), args := #[Operand.tmp 140, Operand.tmp 141, Operand.tmp 143], argTypes := #[30, 25, 30] }, type := 37, pos := "law.go:122", after := #[{ on := 0, ground := Ground.data }, { on := 1, ground := Ground.data }, { on := 3, ground := Ground.data }, { on := 3, ground := Ground.chain }], guard := none }) (fun _ _ => True) rfl (by decide) (fun _ _ _ _ _ => trivial) (fun v d T w' hb hj hd0 hd hdd hB K hK => ?sx31) ?rx31
  case sx31 =>
    have e140 := hd 0 140 _ (by decide) (by kernel_rfl) rfl rfl
    replace e140 : T.getD 140 undef = _ := e140
    have e141 := hd 1 141 _ (by decide) (by kernel_rfl) rfl rfl
    replace e141 : T.getD 141 undef = _ := e141
    have e143 := (hdd 3 (by kernel_rfl)).2 143 rfl
    rw [if_pos (wanted_none _ rfl)]
    have xu := (hdd 3 (by kernel_rfl)).1
    obtain ⟨Au, cu, yu, hlu, hFu⟩ := hj.2.1 (3, TermF k30 ut (fun _ => True)) (by simp) xu
    replace e143 := e143.trans yu
    have hcl := hP w' Au cu _ hb hlu hFu
    clear hd hdd hB
    go_simp
    go_at_call 30
    refine hcl.mono ?_
    rintro e w2 ⟨A', c', rfl, hl', hF', hb'⟩
    have hfp : (TupF k30 r b (fun _ => True)).p (fun k => okF 8 v d k ∨ w'.heap.size ≤ k) (.tuple #[.agg #[.int .i64 r.f0, .slice A' r.f1.length c'], .bool b]) w2 := ⟨_, _, rfl, hl', Kd.F_mono hF' (fun k hk => ⟨hk.elim (fun h => h.elim (fun h => .inl (RetJ.old hj h)) (fun h => .inl h.1)) .inr, trivial⟩)⟩
    exact hK _ _ trivial (hb.trans (hb'.mono hb.size)) trivial (RetJ.val hj hd0 (by decide) (by decide) hb' (fun q hq e => by simp only [List.mem_cons, List.not_mem_nil, or_false] at hq; rcases hq with rfl | rfl | rfl | rfl <;> first | exact hfp | exact absurd e (by simp)))
  refine DetJ.cons (o := { dst := some 139, op := Op.move (Operand.tmp 144), type := 37, pos := "law.go:122", after := #[{ on := 4, ground := Ground.data }], guard := none }) (fun _ _ => True) rfl (by decide) (fun _ _ _ _ _ => trivial) (fun v d T w' hb hj hd0 hd hdd hB K hK => ?sx32) ?rx32
  case sx32 =>
    have e144 := (hdd 4 (by kernel_rfl)).2 144 rfl
    rw [if_pos (wanted_none _ rfl)]
    have xq := (hdd 4 (by kernel_rfl)).1
    obtain ⟨Aq, cq, yq, hlq, hFq⟩ := hj.2.1 (4, TupF k30 r b (fun _ => True)) (by simp) xq
    replace e144 := e144.trans yq
    clear hd hdd hB
    go_simp
    exact hK _ _ trivial hb trivial (RetJ.val hj hd0 (by decide) (by decide) (Below.refl _ _) (fun q hq e => by simp only [List.mem_cons, List.not_mem_nil, or_false] at hq; rcases hq with rfl | rfl | rfl | rfl <;> first | exact ⟨_, _, rfl, hlq, Kd.F_mono hFq (fun k hk => ⟨.inl hk.1, trivial⟩)⟩ | exact absurd e (by simp)))
  refine DetJ.cons (o := { dst := some 145, op := Op.extract (Operand.tmp 139) 0, type := 30, pos := "law.go:122", after := #[{ on := 5, ground := Ground.data }], guard := none }) (fun _ _ => True) rfl (by decide) (fun _ _ _ _ _ => trivial) (fun v d T w' hb hj hd0 hd hdd hB K hK => ?sx33) ?rx33
  case sx33 =>
    have e139 := (hdd 5 (by kernel_rfl)).2 139 rfl
    rw [if_pos (wanted_none _ rfl)]
    have xq := (hdd 5 (by kernel_rfl)).1
    obtain ⟨Aq, cq, yq, hlq, hFq⟩ := hj.2.1 (5, TupF k30 r b (fun _ => True)) (by simp) xq
    replace e139 := e139.trans yq
    clear hd hdd hB
    go_simp
    exact hK _ _ trivial hb trivial (RetJ.val hj hd0 (by decide) (by decide) (Below.refl _ _) (fun q hq e => by simp only [List.mem_cons, List.not_mem_nil, or_false] at hq; rcases hq with rfl | rfl | rfl | rfl <;> first | exact ⟨_, _, rfl, hlq, Kd.F_mono hFq (fun k hk => ⟨.inl hk.1, trivial⟩)⟩ | exact absurd e (by simp)))
  refine DetJ.cons (o := { dst := some 146, op := Op.extract (Operand.tmp 139) 1, type := 4, pos := "law.go:122", after := #[{ on := 5, ground := Ground.data }, { on := 9, ground := Ground.gcOnly Departure.lateStores }], guard := none }) (Told.is (.bool b)) rfl (by decide) (fun _ _ _ h _ => h) (fun v d T w' hb hj hd0 hd hdd hB K hK => ?sx34) ?rx34
  case sx34 =>
    have e139 := (hdd 5 (by kernel_rfl)).2 139 rfl
    rw [if_pos (wanted_none _ rfl)]
    have xq := (hdd 5 (by kernel_rfl)).1
    obtain ⟨Aq, cq, yq, hlq, hFq⟩ := hj.2.1 (5, TupF k30 r b (fun _ => True)) (by simp) xq
    replace e139 := e139.trans yq
    clear hd hdd hB
    go_simp
    exact hK _ _ trivial hb rfl (RetJ.val hj hd0 (by decide) (by decide) (Below.refl _ _) (fun q hq e => by simp only [List.mem_cons, List.not_mem_nil, or_false] at hq; rcases hq with rfl | rfl | rfl | rfl <;> first | exact absurd e (by simp) | exact absurd e (by simp)))
  refine DetJ.cons (o := { dst := some 24, op := Op.alloc 30, type := 0, pos := "law.go:122", after := #[], guard := none }) (fun _ _ => True) rfl (by decide) (fun _ _ _ _ _ => trivial) (fun v d T w' hb hj hd0 hd hdd hB K hK => ?sx35) ?rx35
  case sx35 =>
    rw [if_pos (wanted_none _ rfl)]
    clear hd hdd hB
    go_simp
    exact hK _ _ trivial (below_alloc hb _) trivial (RetJ.alloc hj hd0 (by decide) (by decide) (by intro q hq; simp only [List.mem_cons, List.not_mem_nil, or_false] at hq; rcases hq with rfl | rfl | rfl | rfl <;> simp))
  refine DetJ.cons (o := { dst := none, op := Op.store 30 (Operand.tmp 24) (Operand.tmp 145), type := 0, pos := "law.go:122", after := #[{ on := 8, ground := Ground.data }, { on := 6, ground := Ground.data }, { on := 4, ground := Ground.chain }, { on := 0, ground := Ground.phase }, { on := 1, ground := Ground.phase }, { on := 2, ground := Ground.phase }, { on := 3, ground := Ground.phase }, { on := 4, ground := Ground.phase }, { on := 5, ground := Ground.phase }, { on := 6, ground := Ground.phase }, { on := 7, ground := Ground.textOnly Departure.lateStores }, { on := 8, ground := Ground.phase }], guard := none }) (fun _ _ => True) rfl (by decide) (fun _ _ _ _ _ => trivial) (fun v d T w' hb hj hd0 hd hdd hB K hK => ?sx36) ?rx36
  case sx36 =>
    have e24 := (hdd 8 (by kernel_rfl)).2 24 rfl
    have e145 := (hdd 6 (by kernel_rfl)).2 145 rfl
    rw [if_pos (wanted_none _ rfl)]
    have ea := (hdd 8 (by kernel_rfl)).1
    have xx := (hdd 6 (by kernel_rfl)).1
    obtain ⟨Ax, cx, yx, hlx, hFx⟩ := hj.2.1 (6, TermF k30 r (fun _ => True)) (by simp) xx
    have vx := (hdd 6 (by kernel_rfl)).2 145 rfl
    obtain ⟨g, va, hge, hlt, hbx⟩ := hj.2.2.1 ea
    rw [if_neg (by rw [hd0]; decide)] at hbx
    replace e24 := e24.trans va
    replace e145 := e145.trans yx
    have q0 : w'.cell? ⟨g, 0, none⟩ = some (.int .i64 0) := (blk_cell hbx 0).trans rfl
    have q1 : w'.cell? ⟨g, 1, none⟩ = some (.slice none 0 0) := (blk_cell hbx 1).trans rfl
    have z0 := blk_frozen hbx 0
    have z1 := blk_frozen hbx 1
    have hd0' := Aside0.mk hd0
    have yx' := Aside0.mk yx
    have va' := Aside0.mk va
    clear hd hdd hB vx hd0 yx va
    go_simp
    refine hK undef _ trivial ((hb.setCell hge _).setCell hge _) trivial (RetJ.store hj hd0'.out (by decide) (by decide) (by intro q hq; simp only [List.mem_cons, List.not_mem_nil, or_false] at hq; rcases hq with rfl | rfl | rfl | rfl <;> simp) ea xx va'.out ?_ (fun k hk => setCell2_far k hk) (by rw [setCell_size, setCell_size]))
    refine (blk_set (blk_set hbx 0 _) 1 _).trans ?_
    rw [yx'.out]
    rfl
  refine DetJ.is (o := { dst := some 25, op := Op.assign (Operand.tmp 146), type := 4, pos := "law.go:122", after := #[{ on := 7, ground := Ground.data }, { on := 9, ground := Ground.chain }, { on := 0, ground := Ground.phase }, { on := 1, ground := Ground.phase }, { on := 2, ground := Ground.phase }, { on := 3, ground := Ground.phase }, { on := 4, ground := Ground.phase }, { on := 5, ground := Ground.phase }, { on := 6, ground := Ground.phase }, { on := 7, ground := Ground.phase }, { on := 8, ground := Ground.phase }, { on := 9, ground := Ground.phase }], guard := none }) (u := ?ux37) (fun _ _ _ => trivial) [3, 4, 5, 6, 8, 9] hJo rfl (by decide) (by decide) (fun T w' hb hd hB K hK => ?sx37) ?rx37
  case sx37 =>
    have e146 := hd 7 146 _ (by decide) (by kernel_rfl) rfl rfl
    replace e146 : T.getD 146 undef = _ := e146
    rw [if_pos (wanted_none _ rfl)]
    clear hd hB
    go_simp
    exact hK _ (Below.refl _ _)
  refine DetJ.done [some 140, some 141, some 142, some 143, some 144, some 139, some 145, some 146, some 24, none, some 25] (by kernel_rfl) rfl rfl ?_
  intro v d w' hb hv hall hj
  obtain ⟨g, A', c', h1, h2, h3, h4, h5⟩ := RetJ.box hj (x := r) (kd := k30) (by simp; rfl) (hall 8 (by decide)) (hall 9 (by decide)) (hall 6 (by decide))
  exact hK v w' g A' c' hb (hv 10 _ (by decide) rfl) h1 h2 h3 h4 (Kd.F_mono h5 (fun k hk => hk.2))
set_option maxHeartbeats 4000000 in
set_option maxRecDepth 100000 in
theorem TermPlaces_r14 {id : Nat} {a : Act} {w : World} {Q : Exit → Act → World → Prop} {i : Int} {ga m cl : Nat} {xf xl ef el : Value} {df : Int} {ds : List S24} {ad : Addr}
    (hr : regionOk #[{ dst := some 65, op := Op.move (Operand.tmp 14), type := 4, pos := "law.go:107", after := #[], guard := none }, { dst := some 66, op := Op.unOp UnOp.not 4 (Operand.tmp 65), type := 4, pos := "law.go:107", after := #[{ on := 0, ground := Ground.data }], guard := none }, { dst := some 67, op := Op.move (Operand.tmp 66), type := 4, pos := "law.go:107", after := #[{ on := 1, ground := Ground.data }], guard := none }, { dst := some 68, op := Op.load 30 (Operand.tmp 13), type := 30, pos := "law.go:107", after := #[{ on := 2, ground := Ground.guard }], guard := some (2, false) }, { dst := some 69, op := Op.call { callee := Callee.value (Operand.func 29), args := #[Operand.tmp 68], argTypes := #[30] }, type := 24, pos := "law.go:107", after := #[{ on := 3, ground := Ground.data }, { on := 2, ground := Ground.chain }, { on := 2, ground := Ground.guard }], guard := some (2, false) }, { dst := some 70, op := Op.move (Operand.tmp 11), type := 22, pos := "law.go:107", after := #[{ on := 2, ground := Ground.guard }], guard := some (2, false) }, { dst := some 71, op := Op.move (Operand.tmp 12), type := 3, pos := "law.go:107", after := #[{ on := 2, ground := Ground.guard }], guard := some (2, false) }, { dst := some 72, op := Op.indexAddr 22 (Operand.tmp 70) (Operand.tmp 71), type := 0, pos := "law.go:107", after := #[{ on := 5, ground := Ground.data }, { on := 6, ground := Ground.data }, { on := 2, ground := Ground.guard }], guard := some (2, false) }, { dst := some 73, op := Op.load 24 (Operand.tmp 72), type := 24, pos := "law.go:107", after := #[{ on := 7, ground := Ground.data }, { on := 2, ground := Ground.guard }], guard := some (2, false) }, { dst := some 74, op := Op.call { callee := Callee.value (Operand.func 28), args := #[Operand.tmp 69, Operand.tmp 73], argTypes := #[24, 24] }, type := 4, pos := "law.go:107", after := #[{ on := 4, ground := Ground.data }, { on := 8, ground := Ground.data }, { on := 4, ground := Ground.chain }, { on := 2, ground := Ground.guard }], guard := some (2, false) }, { dst := some 75, op := Op.unOp UnOp.not 4 (Operand.tmp 74), type := 4, pos := "law.go:107", after := #[{ on := 9, ground := Ground.data }, { on := 2, ground := Ground.guard }], guard := some (2, false) }, { dst := some 76, op := Op.pick (Operand.tmp 67) (Operand.const (Value.bool true)) (Operand.tmp 75), type := 4, pos := "law.go:107", after := #[{ on := 2, ground := Ground.data }, { on := 10, ground := Ground.data }], guard := none }] a.tmps.size = true)
    (hT14 : a.tmps.getD 14 undef = .bool true)
    (hT11 : a.tmps.getD 11 undef = .slice (some ad) m cl)
    (hT12 : a.tmps.getD 12 undef = .int .i64 i)
    (hT13 : a.tmps.getD 13 undef = .pointer (some ⟨ga, 0, none⟩)) (hX13 : w.heap[ga]? = some (.cells #[xf, xl] 30 (0, 0)))
    (hF4 : ∀ w1, Below w.heap.size w w1 → Calls Try.prog 29 #[.agg #[xf, xl]] w1 fun e w2 => ∃ u, e = .returned u ∧ TermTold k24 df ds u w2 ∧ Below w1.heap.size w1 w2)
    (h1 : 0 ≤ i) (h2 : i < (m : Int)) (hc0 : w.cell? (ad.add (i.toNat * 2)) = some ef) (hc1 : w.cell? ⟨(ad.add (i.toNat * 2)).block, (ad.add (i.toNat * 2)).off + 1, none⟩ = some el)
    (hS : ∀ (w1 : World) (A : Option Addr) (c : Nat), Below w.heap.size w w1 → ds.length ≤ c → k24.C w1 A ds.length ds → Calls Try.prog 28 #[.agg #[.int .i64 df, .slice A ds.length c], .agg #[ef, el]] w1 fun e w2 => e = .returned (.bool true) ∧ Below w1.heap.size w1 w2)
    (hK : ∀ v w', Below w.heap.size w w' → v 11 = .bool false → Q .normal { tmps := layL [some 65, some 66, some 67, some 68, some 69, some 70, some 71, some 72, some 73, some 74, some 75, some 76] 0 v a.tmps, defers := a.defers } w') :
    (Code.region id #[{ dst := some 65, op := Op.move (Operand.tmp 14), type := 4, pos := "law.go:107", after := #[], guard := none }, { dst := some 66, op := Op.unOp UnOp.not 4 (Operand.tmp 65), type := 4, pos := "law.go:107", after := #[{ on := 0, ground := Ground.data }], guard := none }, { dst := some 67, op := Op.move (Operand.tmp 66), type := 4, pos := "law.go:107", after := #[{ on := 1, ground := Ground.data }], guard := none }, { dst := some 68, op := Op.load 30 (Operand.tmp 13), type := 30, pos := "law.go:107", after := #[{ on := 2, ground := Ground.guard }], guard := some (2, false) }, { dst := some 69, op := Op.call { callee := Callee.value (Operand.func 29), args := #[Operand.tmp 68], argTypes := #[30] }, type := 24, pos := "law.go:107", after := #[{ on := 3, ground := Ground.data }, { on := 2, ground := Ground.chain }, { on := 2, ground := Ground.guard }], guard := some (2, false) }, { dst := some 70, op := Op.move (Operand.tmp 11), type := 22, pos := "law.go:107", after := #[{ on := 2, ground := Ground.guard }], guard := some (2, false) }, { dst := some 71, op := Op.move (Operand.tmp 12), type := 3, pos := "law.go:107", after := #[{ on := 2, ground := Ground.guard }], guard := some (2, false) }, { dst := some 72, op := Op.indexAddr 22 (Operand.tmp 70) (Operand.tmp 71), type := 0, pos := "law.go:107", after := #[{ on := 5, ground := Ground.data }, { on := 6, ground := Ground.data }, { on := 2, ground := Ground.guard }], guard := some (2, false) }, { dst := some 73, op := Op.load 24 (Operand.tmp 72), type := 24, pos := "law.go:107", after := #[{ on := 7, ground := Ground.data }, { on := 2, ground := Ground.guard }], guard := some (2, false) }, { dst := some 74, op := Op.call { callee := Callee.value (Operand.func 28), args := #[Operand.tmp 69, Operand.tmp 73], argTypes := #[24, 24] }, type := 4, pos := "law.go:107", after := #[{ on := 4, ground := Ground.data }, { on := 8, ground := Ground.data }, { on := 4, ground := Ground.chain }, { on := 2, ground := Ground.guard }], guard := some (2, false) }, { dst := some 75, op := Op.unOp UnOp.not 4 (Operand.tmp 74), type := 4, pos := "law.go:107", after := #[{ on := 9, ground := Ground.data }, { on := 2, ground := Ground.guard }], guard := some (2, false) }, { dst := some 76, op := Op.pick (Operand.tmp 67) (Operand.const (Value.bool true)) (Operand.tmp 75), type := 4, pos := "law.go:107", after := #[{ on := 2, ground := Ground.data }, { on := 10, ground := Ground.data }], guard := none }] true).wp Try.prog Q a w := by
  have hmx : Try.prog.follows .mixedOrders = true := by kernel_rfl
  refine region_detR 12 hmx hr (by kernel_rfl) ?_
  refine DetR.is (o := { dst := some 65, op := Op.move (Operand.tmp 14), type := 4, pos := "law.go:107", after := #[], guard := none }) (u := ?ux38) rfl (by decide) (fun T w' hb hd hB K hK => ?sx38) ?rx38
  case sx38 =>
    have e14 := (hB 14 (by kernel_rfl)).trans hT14
    rw [if_pos (wanted_none _ rfl)]
    clear hd hB
    go_simp
    exact hK _ (Below.refl _ _)
  refine DetR.is (o := { dst := some 66, op := Op.unOp UnOp.not 4 (Operand.tmp 65), type := 4, pos := "law.go:107", after := #[{ on := 0, ground := Ground.data }], guard := none }) (u := .bool false) rfl (by decide) (fun T w' hb hd hB K hK => ?sx39) ?rx39
  case sx39 =>
    have e65 := hd 0 65 _ (by decide) (by kernel_rfl) rfl rfl
    replace e65 : T.getD 65 undef = _ := e65
    rw [if_pos (wanted_none _ rfl)]
    clear hd hB
    go_simp
    exact hK _ (Below.refl _ _)
  refine DetR.is (o := { dst := some 67, op := Op.move (Operand.tmp 66), type := 4, pos := "law.go:107", after := #[{ on := 1, ground := Ground.data }], guard := none }) (u := .bool false) rfl (by decide) (fun T w' hb hd hB K hK => ?sx40) ?rx40
  case sx40 =>
    have e66 := hd 1 66 _ (by decide) (by kernel_rfl) rfl rfl
    replace e66 : T.getD 66 undef = _ := e66
    rw [if_pos (wanted_none _ rfl)]
    clear hd hB
    go_simp
    exact hK _ (Below.refl _ _)
  refine DetR.is (o := { dst := some 68, op := Op.load 30 (Operand.tmp 13), type := 30, pos := "law.go:107", after := #[{ on := 2, ground := Ground.guard }], guard := some (2, false) }) (u := ?ux41) rfl (by decide) (fun T w' hb hd hB K hK => ?sx41) ?rx41
  case sx41 =>
    have e13 := (hB 13 (by kernel_rfl)).trans hT13
    have q13_0 : w'.cell? ⟨ga, 0, none⟩ = some (xf) := (blk_cell (blk_below hX13 hb) 0).trans rfl
    have q13_1 : w'.cell? ⟨ga, 1, none⟩ = some (xl) := (blk_cell (blk_below hX13 hb) 1).trans rfl
    have eg := hd 2 67 _ (by decide) (by kernel_rfl) rfl rfl
    replace eg : T.getD 67 undef = .bool false := eg
    rw [if_pos (wanted_yes 2 67 false rfl rfl eg)]
    clear eg
    clear hd hB
    go_simp
    exact hK _ (Below.refl _ _)
  refine DetR.cons (o := { dst := some 69, op := Op.call { callee := Callee.value (Operand.func 29), args := #[Operand.tmp 68], argTypes := #[30] }, type := 24, pos := "law.go:107", after := #[{ on := 3, ground := Ground.data }, { on := 2, ground := Ground.chain }, { on := 2, ground := Ground.guard }], guard := some (2, false) }) (TermTold k24 df ds) rfl (by decide) (TermTold.grows _ _ _) (fun T w' hb hd hB K hK => ?sx42) ?rx42
  case sx42 =>
    have e68 := hd 3 68 _ (by decide) (by kernel_rfl) rfl rfl
    replace e68 : T.getD 68 undef = _ := e68
    have eg := hd 2 67 _ (by decide) (by kernel_rfl) rfl rfl
    replace eg : T.getD 67 undef = .bool false := eg
    rw [if_pos (wanted_yes 2 67 false rfl rfl eg)]
    clear eg
    have hcl := hF4 w' hb
    clear hd hB
    go_simp
    go_at_call 29
    refine hcl.mono ?_
    rintro e w2 ⟨u, rfl, h1, h2⟩
    exact hK _ _ h2 h1
  refine DetR.is (o := { dst := some 70, op := Op.move (Operand.tmp 11), type := 22, pos := "law.go:107", after := #[{ on := 2, ground := Ground.guard }], guard := some (2, false) }) (u := ?ux43) rfl (by decide) (fun T w' hb hd hB K hK => ?sx43) ?rx43
  case sx43 =>
    have e11 := (hB 11 (by kernel_rfl)).trans hT11
    have eg := hd 2 67 _ (by decide) (by kernel_rfl) rfl rfl
    replace eg : T.getD 67 undef = .bool false := eg
    rw [if_pos (wanted_yes 2 67 false rfl rfl eg)]
    clear eg
    clear hd hB
    go_simp
    exact hK _ (Below.refl _ _)
  refine DetR.is (o := { dst := some 71, op := Op.move (Operand.tmp 12), type := 3, pos := "law.go:107", after := #[{ on := 2, ground := Ground.guard }], guard := some (2, false) }) (u := ?ux44) rfl (by decide) (fun T w' hb hd hB K hK => ?sx44) ?rx44
  case sx44 =>
    have e12 := (hB 12 (by kernel_rfl)).trans hT12
    have eg := hd 2 67 _ (by decide) (by kernel_rfl) rfl rfl
    replace eg : T.getD 67 undef = .bool false := eg
    rw [if_pos (wanted_yes 2 67 false rfl rfl eg)]
    clear eg
    clear hd hB
    go_simp
    exact hK _ (Below.refl _ _)
  refine DetR.is (o := { dst := some 72, op := Op.indexAddr 22 (Operand.tmp 70) (Operand.tmp 71), type := 0, pos := "law.go:107", after := #[{ on := 5, ground := Ground.data }, { on := 6, ground := Ground.data }, { on := 2, ground := Ground.guard }], guard := some (2, false) }) (u := .pointer (some (ad.add (i.toNat * 2)))) rfl (by decide) (fun T w' hb hd hB K hK => ?sx45) ?rx45
  case sx45 =>
    have e70 := hd 5 70 _ (by decide) (by kernel_rfl) rfl rfl
    replace e70 : T.getD 70 undef = _ := e70
    have e71 := hd 6 71 _ (by decide) (by kernel_rfl) rfl rfl
    replace e71 : T.getD 71 undef = _ := e71
    have eg := hd 2 67 _ (by decide) (by kernel_rfl) rfl rfl
    replace eg : T.getD 67 undef = .bool false := eg
    rw [if_pos (wanted_yes 2 67 false rfl rfl eg)]
    clear eg
    clear hd hB
    go_simp
    exact hK _ (Below.refl _ _)
  refine DetR.is (o := { dst := some 73, op := Op.load 24 (Operand.tmp 72), type := 24, pos := "law.go:107", after := #[{ on := 7, ground := Ground.data }, { on := 2, ground := Ground.guard }], guard := some (2, false) }) (u := .agg #[ef, el]) rfl (by decide) (fun T w' hb hd hB K hK => ?sx46) ?rx46
  case sx46 =>
    have e72 := hd 7 72 _ (by decide) (by kernel_rfl) rfl rfl
    replace e72 : T.getD 72 undef = _ := e72
    have eg := hd 2 67 _ (by decide) (by kernel_rfl) rfl rfl
    replace eg : T.getD 67 undef = .bool false := eg
    rw [if_pos (wanted_yes 2 67 false rfl rfl eg)]
    clear eg
    have hc0' := (hb.cell (cell_lt' hc0)).trans hc0
    have hc1' := (hb.cell (cell_lt' hc1)).trans hc1
    clear hd hB
    go_simp
    exact hK _ (Below.refl _ _)
  refine DetR.is (o := { dst := some 74, op := Op.call { callee := Callee.value (Operand.func 28), args := #[Operand.tmp 69, Operand.tmp 73], argTypes := #[24, 24] }, type := 4, pos := "law.go:107", after := #[{ on := 4, ground := Ground.data }, { on := 8, ground := Ground.data }, { on := 4, ground := Ground.chain }, { on := 2, ground := Ground.guard }], guard := some (2, false) }) (u := ?ux47) rfl (by decide) (fun T w' hb hd hB K hK => ?sx47) ?rx47
  case sx47 =>
    obtain ⟨A69, c69, e69, hl69, hC69⟩ := (hd 4 69 _ (by decide) (by kernel_rfl) rfl rfl)
    have e73 := hd 8 73 _ (by decide) (by kernel_rfl) rfl rfl
    replace e73 : T.getD 73 undef = _ := e73
    have eg := hd 2 67 _ (by decide) (by kernel_rfl) rfl rfl
    replace eg : T.getD 67 undef = .bool false := eg
    rw [if_pos (wanted_yes 2 67 false rfl rfl eg)]
    clear eg
    have hcl := hS w' A69 c69 hb hl69 hC69
    clear hd hB
    go_simp
    go_at_call 28
    refine hcl.mono ?_
    rintro e w2 ⟨rfl, h2⟩
    exact hK _ h2
  refine DetR.is (o := { dst := some 75, op := Op.unOp UnOp.not 4 (Operand.tmp 74), type := 4, pos := "law.go:107", after := #[{ on := 9, ground := Ground.data }, { on := 2, ground := Ground.guard }], guard := some (2, false) }) (u := ?ux48) rfl (by decide) (fun T w' hb hd hB K hK => ?sx48) ?rx48
  case sx48 =>
    have e74 := hd 9 74 _ (by decide) (by kernel_rfl) rfl rfl
    replace e74 : T.getD 74 undef = _ := e74
    have eg := hd 2 67 _ (by decide) (by kernel_rfl) rfl rfl
    replace eg : T.getD 67 undef = .bool false := eg
    rw [if_pos (wanted_yes 2 67 false rfl rfl eg)]
    clear eg
    clear hd hB
    go_simp
    exact hK _ (Below.refl _ _)
  refine DetR.is (o := { dst := some 76, op := Op.pick (Operand.tmp 67) (Operand.const (Value.bool true)) (Operand.tmp 75), type := 4, pos := "law.go:107", after := #[{ on := 2, ground := Ground.data }, { on := 10, ground := Ground.data }], guard := none }) (u := ?ux49) rfl (by decide) (fun T w' hb hd hB K hK => ?sx49) ?rx49
  case sx49 =>
    have e67 := hd 2 67 _ (by decide) (by kernel_rfl) rfl rfl
    replace e67 : T.getD 67 undef = _ := e67
    have e75 := hd 10 75 _ (by decide) (by kernel_rfl) rfl rfl
    replace e75 : T.getD 75 undef = _ := e75
    rw [if_pos (wanted_none _ rfl)]
    clear hd hB
    go_simp
    exact hK _ (Below.refl _ _)
  refine DetR.done [some 65, some 66, some 67, some 68, some 69, some 70, some 71, some 72, some 73, some 74, some 75, some 76] (by kernel_rfl) rfl (by kernel_rfl) ?_
  intro v w' hb hv
  exact hK v w' hb (hv 11 _ (by decide) rfl)
set_option maxHeartbeats 4000000 in
set_option maxRecDepth 100000 in
theorem TermPlaces_r19 {id : Nat} {a : Act} {w : World} {Q : Exit → Act → World → Prop} {gy gw ga gc : Nat} {yf yl vf vl xf xl af al : Value} {df ef : Int} {ds es : List S24}
    (hr : regionOk #[{ dst := some 100, op := Op.move (Operand.tmp 17), type := 4, pos := "law.go:114", after := #[], guard := none }, { dst := some 101, op := Op.unOp UnOp.not 4 (Operand.tmp 100), type := 4, pos := "law.go:114", after := #[{ on := 0, ground := Ground.data }], guard := none }, { dst := some 102, op := Op.move (Operand.tmp 101), type := 4, pos := "law.go:114", after := #[{ on := 1, ground := Ground.data }], guard := none }, { dst := some 103, op := Op.load 30 (Operand.tmp 16), type := 30, pos := "law.go:114", after := #[{ on := 2, ground := Ground.guard }], guard := some (2, false) }, { dst := some 104, op := Op.call { callee := Callee.value (Operand.func 29), args := #[Operand.tmp 103], argTypes := #[30] }, type := 24, pos := "law.go:114", after := #[{ on := 3, ground := Ground.data }, { on := 2, ground := Ground.chain }, { on := 2, ground := Ground.guard }], guard := some (2, false) }, { dst := some 105, op := Op.load 24 (Operand.tmp 18), type := 24, pos := "law.go:114", after := #[{ on := 2, ground := Ground.guard }], guard := some (2, false) }, { dst := some 106, op := Op.call { callee := Callee.value (Operand.func 28), args := #[Operand.tmp 104, Operand.tmp 105], argTypes := #[24, 24] }, type := 4, pos := "law.go:114", after := #[{ on := 4, ground := Ground.data }, { on := 5, ground := Ground.data }, { on := 4, ground := Ground.chain }, { on := 2, ground := Ground.guard }], guard := some (2, false) }, { dst := some 107, op := Op.unOp UnOp.not 4 (Operand.tmp 106), type := 4, pos := "law.go:114", after := #[{ on := 6, ground := Ground.data }, { on := 2, ground := Ground.guard }], guard := some (2, false) }, { dst := some 108, op := Op.pick (Operand.tmp 102) (Operand.const (Value.bool true)) (Operand.tmp 107), type := 4, pos := "law.go:114", after := #[{ on := 2, ground := Ground.data }, { on := 7, ground := Ground.data }], guard := none }, { dst := some 109, op := Op.move (Operand.tmp 108), type := 4, pos := "law.go:114", after := #[{ on := 8, ground := Ground.data }, { on := 6, ground := Ground.chain }], guard := none }, { dst := some 110, op := Op.load 30 (Operand.tmp 9), type := 30, pos := "law.go:114", after := #[{ on := 9, ground := Ground.guard }], guard := some (9, false) }, { dst := some 111, op := Op.call { callee := Callee.value (Operand.func 29), args := #[Operand.tmp 110], argTypes := #[30] }, type := 24, pos := "law.go:114", after := #[{ on := 10, ground := Ground.data }, { on := 9, ground := Ground.chain }, { on := 9, ground := Ground.guard }], guard := some (9, false) }, { dst := some 112, op := Op.load 24 (Operand.tmp 4), type := 24, pos := "law.go:114", after := #[{ on := 9, ground := Ground.guard }], guard := some (9, false) }, { dst := some 113, op := Op.call { callee := Callee.value (Operand.func 28), args := #[Operand.tmp 111, Operand.tmp 112], argTypes := #[24, 24] }, type := 4, pos := "law.go:114", after := #[{ on := 11, ground := Ground.data }, { on := 12, ground := Ground.data }, { on := 11, ground := Ground.chain }, { on := 9, ground := Ground.guard }], guard := some (9, false) }, { dst := some 114, op := Op.unOp UnOp.not 4 (Operand.tmp 113), type := 4, pos := "law.go:114", after := #[{ on := 13, ground := Ground.data }, { on := 9, ground := Ground.guard }], guard := some (9, false) }, { dst := some 115, op := Op.pick (Operand.tmp 109) (Operand.const (Value.bool true)) (Operand.tmp 114), type := 4, pos := "law.go:114", after := #[{ on := 9, ground := Ground.data }, { on := 14, ground := Ground.data }], guard := none }] a.tmps.size = true)
    (hT17 : a.tmps.getD 17 undef = .bool true)
    (hT16 : a.tmps.getD 16 undef = .pointer (some ⟨gy, 0, none⟩)) (hX16 : w.heap[gy]? = some (.cells #[yf, yl] 30 (0, 0)))
    (hT18 : a.tmps.getD 18 undef = .pointer (some ⟨gw, 0, none⟩)) (hX18 : w.heap[gw]? = some (.cells #[vf, vl] 24 (0, 0)))
    (hT9 : a.tmps.getD 9 undef = .pointer (some ⟨ga, 0, none⟩)) (hX9 : w.heap[ga]? = some (.cells #[xf, xl] 30 (0, 0)))
    (hT4 : a.tmps.getD 4 undef = .pointer (some ⟨gc, 0, none⟩)) (hX4 : w.heap[gc]? = some (.cells #[af, al] 24 (0, 0)))
    (hF4 : ∀ w1, Below w.heap.size w w1 → Calls Try.prog 29 #[.agg #[yf, yl]] w1 fun e w2 => ∃ u, e = .returned u ∧ TermTold k24 df ds u w2 ∧ Below w1.heap.size w1 w2)
    (hF11 : ∀ w1, Below w.heap.size w w1 → Calls Try.prog 29 #[.agg #[xf, xl]] w1 fun e w2 => ∃ u, e = .returned u ∧ TermTold k24 ef es u w2 ∧ Below w1.heap.size w1 w2)
    (hS : ∀ (w1 : World) (A : Option Addr) (c : Nat), Below w.heap.size w w1 → ds.length ≤ c → k24.C w1 A ds.length ds → Calls Try.prog 28 #[.agg #[.int .i64 df, .slice A ds.length c], .agg #[vf, vl]] w1 fun e w2 => e = .returned (.bool true) ∧ Below w1.heap.size w1 w2)
    (hS2 : ∀ (w1 : World) (A : Option Addr) (c : Nat), Below w.heap.size w w1 → es.length ≤ c → k24.C w1 A es.length es → Calls Try.prog 28 #[.agg #[.int .i64 ef, .slice A es.length c], .agg #[af, al]] w1 fun e w2 => e = .returned (.bool true) ∧ Below w1.heap.size w1 w2)
    (hK : ∀ v w', Below w.heap.size w w' → v 15 = .bool false → Q .normal { tmps := layL [some 100, some 101, some 102, some 103, some 104, some 105, some 106, some 107, some 108, some 109, some 110, some 111, some 112, some 113, some 114, some 115] 0 v a.tmps, defers := a.defers } w') :
    (Code.region id #[{ dst := some 100, op := Op.move (Operand.tmp 17), type := 4, pos := "law.go:114", after := #[], guard := none }, { dst := some 101, op := Op.unOp UnOp.not 4 (Operand.tmp 100), type := 4, pos := "law.go:114", after := #[{ on := 0, ground := Ground.data }], guard := none }, { dst := some 102, op := Op.move (Operand.tmp 101), type := 4, pos := "law.go:114", after := #[{ on := 1, ground := Ground.data }], guard := none }, { dst := some 103, op := Op.load 30 (Operand.tmp 16), type := 30, pos := "law.go:114", after := #[{ on := 2, ground := Ground.guard }], guard := some (2, false) }, { dst := some 104, op := Op.call { callee := Callee.value (Operand.func 29), args := #[Operand.tmp 103], argTypes := #[30] }, type := 24, pos := "law.go:114", after := #[{ on := 3, ground := Ground.data }, { on := 2, ground := Ground.chain }, { on := 2, ground := Ground.guard }], guard := some (2, false) }, { dst := some 105, op := Op.load 24 (Operand.tmp 18), type := 24, pos := "law.go:114", after := #[{ on := 2, ground := Ground.guard }], guard := some (2, false) }, { dst := some 106, op := Op.call { callee := Callee.value (Operand.func 28), args := #[Operand.tmp 104, Operand.tmp 105], argTypes := #[24, 24] }, type := 4, pos := "law.go:114", after := #[{ on := 4, ground := Ground.data }, { on := 5, ground := Ground.data }, { on := 4, ground := Ground.chain }, { on := 2, ground := Ground.guard }], guard := some (2, false) }, { dst := some 107, op := Op.unOp UnOp.not 4 (Operand.tmp 106), type := 4, pos := "law.go:114", after := #[{ on := 6, ground := Ground.data }, { on := 2, ground := Ground.guard }], guard := some (2, false) }, { dst := some 108, op := Op.pick (Operand.tmp 102) (Operand.const (Value.bool true)) (Operand.tmp 107), type := 4, pos := "law.go:114", after := #[{ on := 2, ground := Ground.data }, { on := 7, ground := Ground.data }], guard := none }, { dst := some 109, op := Op.move (Operand.tmp 108), type := 4, pos := "law.go:114", after := #[{ on := 8, ground := Ground.data }, { on := 6, ground := Ground.chain }], guard := none }, { dst := some 110, op := Op.load 30 (Operand.tmp 9), type := 30, pos := "law.go:114", after := #[{ on := 9, ground := Ground.guard }], guard := some (9, false) }, { dst := some 111, op := Op.call { callee := Callee.value (Operand.func 29), args := #[Operand.tmp 110], argTypes := #[30] }, type := 24, pos := "law.go:114", after := #[{ on := 10, ground := Ground.data }, { on := 9, ground := Ground.chain }, { on := 9, ground := Ground.guard }], guard := some (9, false) }, { dst := some 112, op := Op.load 24 (Operand.tmp 4), type := 24, pos := "law.go:114", after := #[{ on := 9, ground := Ground.guard }], guard := some (9, false) }, { dst := some 113, op := Op.call { callee := Callee.value (Operand.func 28), args := #[Operand.tmp 111, Operand.tmp 112], argTypes := #[24, 24] }, type := 4, pos := "law.go:114", after := #[{ on := 11, ground := Ground.data }, { on := 12, ground := Ground.data }, { on := 11, ground := Ground.chain }, { on := 9, ground := Ground.guard }], guard := some (9, false) }, { dst := some 114, op := Op.unOp UnOp.not 4 (Operand.tmp 113), type := 4, pos := "law.go:114", after := #[{ on := 13, ground := Ground.data }, { on := 9, ground := Ground.guard }], guard := some (9, false) }, { dst := some 115, op := Op.pick (Operand.tmp 109) (Operand.const (Value.bool true)) (Operand.tmp 114), type := 4, pos := "law.go:114", after := #[{ on := 9, ground := Ground.data }, { on := 14, ground := Ground.data }], guard := none }] true).wp Try.prog Q a w := by
  have hmx : Try.prog.follows .mixedOrders = true := by kernel_rfl
  refine region_detR 16 hmx hr (by kernel_rfl) ?_
  refine DetR.is (o := { dst := some 100, op := Op.move (Operand.tmp 17), type := 4, pos := "law.go:114", after := #[], guard := none }) (u := ?ux50) rfl (by decide) (fun T w' hb hd hB K hK => ?sx50) ?rx50
  case sx50 =>
    have e17 := (hB 17 (by kernel_rfl)).trans hT17
    rw [if_pos (wanted_none _ rfl)]
    clear hd hB
    go_simp
    exact hK _ (Below.refl _ _)
  refine DetR.is (o := { dst := some 101, op := Op.unOp UnOp.not 4 (Operand.tmp 100), type := 4, pos := "law.go:114", after := #[{ on := 0, ground := Ground.data }], guard := none }) (u := .bool false) rfl (by decide) (fun T w' hb hd hB K hK => ?sx51) ?rx51
  case sx51 =>
    have e100 := hd 0 100 _ (by decide) (by kernel_rfl) rfl rfl
    replace e100 : T.getD 100 undef = _ := e100
    rw [if_pos (wanted_none _ rfl)]
    clear hd hB
    go_simp
    exact hK _ (Below.refl _ _)
  refine DetR.is (o := { dst := some 102, op := Op.move (Operand.tmp 101), type := 4, pos := "law.go:114", after := #[{ on := 1, ground := Ground.data }], guard := none }) (u := .bool false) rfl (by decide) (fun T w' hb hd hB K hK => ?sx52) ?rx52
  case sx52 =>
    have e101 := hd 1 101 _ (by decide) (by kernel_rfl) rfl rfl
    replace e101 : T.getD 101 undef = _ := e101
    rw [if_pos (wanted_none _ rfl)]
    clear hd hB
    go_simp
    exact hK _ (Below.refl _ _)
  refine DetR.is (o := { dst := some 103, op := Op.load 30 (Operand.tmp 16), type := 30, pos := "law.go:114", after := #[{ on := 2, ground := Ground.guard }], guard := some (2, false) }) (u := ?ux53) rfl (by decide) (fun T w' hb hd hB K hK => ?sx53) ?rx53
  case sx53 =>
    have e16 := (hB 16 (by kernel_rfl)).trans hT16
    have q16_0 : w'.cell? ⟨gy, 0, none⟩ = some (yf) := (blk_cell (blk_below hX16 hb) 0).trans rfl
    have q16_1 : w'.cell? ⟨gy, 1, none⟩ = some (yl) := (blk_cell (blk_below hX16 hb) 1).trans rfl
    have eg := hd 2 102 _ (by decide) (by kernel_rfl) rfl rfl
    replace eg : T.getD 102 undef = .bool false := eg
    rw [if_pos (wanted_yes 2 102 false rfl rfl eg)]
    clear eg
    clear hd hB
    go_simp
    exact hK _ (Below.refl _ _)
  refine DetR.cons (o := { dst := some 104, op := Op.call { callee := Callee.value (Operand.func 29), args := #[Operand.tmp 103], argTypes := #[30] }, type := 24, pos := "law.go:114", after := #[{ on := 3, ground := Ground.data }, { on := 2, ground := Ground.chain }, { on := 2, ground := Ground.guard }], guard := some (2, false) }) (TermTold k24 df ds) rfl (by decide) (TermTold.grows _ _ _) (fun T w' hb hd hB K hK => ?sx54) ?rx54
  case sx54 =>
    have e103 := hd 3 103 _ (by decide) (by kernel_rfl) rfl rfl
    replace e103 : T.getD 103 undef = _ := e103
    have eg := hd 2 102 _ (by decide) (by kernel_rfl) rfl rfl
    replace eg : T.getD 102 undef = .bool false := eg
    rw [if_pos (wanted_yes 2 102 false rfl rfl eg)]
    clear eg
    have hcl := hF4 w' hb
    clear hd hB
    go_simp
    go_at_call 29
    refine hcl.mono ?_
    rintro e w2 ⟨u, rfl, h1, h2⟩
    exact hK _ _ h2 h1
  refine DetR.is (o := { dst := some 105, op := Op.load 24 (Operand.tmp 18), type := 24, pos := "law.go:114", after := #[{ on := 2, ground := Ground.guard }], guard := some (2, false) }) (u := ?ux55) rfl (by decide) (fun T w' hb hd hB K hK => ?sx55) ?rx55
  case sx55 =>
    have e18 := (hB 18 (by kernel_rfl)).trans hT18
    have q18_0 : w'.cell? ⟨gw, 0, none⟩ = some (vf) := (blk_cell (blk_below hX18 hb) 0).trans rfl
    have q18_1 : w'.cell? ⟨gw, 1, none⟩ = some (vl) := (blk_cell (blk_below hX18 hb) 1).trans rfl
    have eg := hd 2 102 _ (by decide) (by kernel_rfl) rfl rfl
    replace eg : T.getD 102 undef = .bool false := eg
    rw [if_pos (wanted_yes 2 102 false rfl rfl eg)]
    clear eg
    clear hd hB
    go_simp
    exact hK _ (Below.refl _ _)
  refine DetR.is (o := { dst := some 106, op := Op.call { callee := Callee.value (Operand.func 28), args := #[Operand.tmp 104, Operand.tmp 105], argTypes := #[24, 24] }, type := 4, pos := "law.go:114", after := #[{ on := 4, ground := Ground.data }, { on := 5, ground := Ground.data }, { on := 4, ground := Ground.chain }, { on := 2, ground := Ground.guard }], guard := some (2, false) }) (u := ?ux56) rfl (by decide) (fun T w' hb hd hB K hK => ?sx56) ?rx56
  case sx56 =>
    obtain ⟨A104, c104, e104, hl104, hC104⟩ := (hd 4 104 _ (by decide) (by kernel_rfl) rfl rfl)
    have e105 := hd 5 105 _ (by decide) (by kernel_rfl) rfl rfl
    replace e105 : T.getD 105 undef = _ := e105
    have eg := hd 2 102 _ (by decide) (by kernel_rfl) rfl rfl
    replace eg : T.getD 102 undef = .bool false := eg
    rw [if_pos (wanted_yes 2 102 false rfl rfl eg)]
    clear eg
    have hcl := hS w' A104 c104 hb hl104 hC104
    clear hd hB
    go_simp
    go_at_call 28
    refine hcl.mono ?_
    rintro e w2 ⟨rfl, h2⟩
    exact hK _ h2
  refine DetR.is (o := { dst := some 107, op := Op.unOp UnOp.not 4 (Operand.tmp 106), type := 4, pos := "law.go:114", after := #[{ on := 6, ground := Ground.data }, { on := 2, ground := Ground.guard }], guard := some (2, false) }) (u := .bool false) rfl (by decide) (fun T w' hb hd hB K hK => ?sx57) ?rx57
  case sx57 =>
    have e106 := hd 6 106 _ (by decide) (by kernel_rfl) rfl rfl
    replace e106 : T.getD 106 undef = _ := e106
    have eg := hd 2 102 _ (by decide) (by kernel_rfl) rfl rfl
    replace eg : T.getD 102 undef = .bool false := eg
    rw [if_pos (wanted_yes 2 102 false rfl rfl eg)]
    clear eg
    clear hd hB
    go_simp
    exact hK _ (Below.refl _ _)
  refine DetR.is (o := { dst := some 108, op := Op.pick (Operand.tmp 102) (Operand.const (Value.bool true)) (Operand.tmp 107), type := 4, pos := "law.go:114", after := #[{ on := 2, ground := Ground.data }, { on := 7, ground := Ground.data }], guard := none }) (u := .bool false) rfl (by decide) (fun T w' hb hd hB K hK => ?sx58) ?rx58
  case sx58 =>
    have e102 := hd 2 102 _ (by decide) (by kernel_rfl) rfl rfl
    replace e102 : T.getD 102 undef = _ := e102
    have e107 := hd 7 107 _ (by decide) (by kernel_rfl) rfl rfl
    replace e107 : T.getD 107 undef = _ := e107
    rw [if_pos (wanted_none _ rfl)]
    clear hd hB
    go_simp
    exact hK _ (Below.refl _ _)
  refine DetR.is (o := { dst := some 109, op := Op.move (Operand.tmp 108), type := 4, pos := "law.go:114", after := #[{ on := 8, ground := Ground.data }, { on := 6, ground := Ground.chain }], guard := none }) (u := .bool false) rfl (by decide) (fun T w' hb hd hB K hK => ?sx59) ?rx59
  case sx59 =>
    have e108 := hd 8 108 _ (by decide) (by kernel_rfl) rfl rfl
    replace e108 : T.getD 108 undef = _ := e108
    rw [if_pos (wanted_none _ rfl)]
    clear hd hB
    go_simp
    exact hK _ (Below.refl _ _)
  refine DetR.is (o := { dst := some 110, op := Op.load 30 (Operand.tmp 9), type := 30, pos := "law.go:114", after := #[{ on := 9, ground := Ground.guard }], guard := some (9, false) }) (u := ?ux60) rfl (by decide) (fun T w' hb hd hB K hK => ?sx60) ?rx60
  case sx60 =>
    have e9 := (hB 9 (by kernel_rfl)).trans hT9
    have q9_0 : w'.cell? ⟨ga, 0, none⟩ = some (xf) := (blk_cell (blk_below hX9 hb) 0).trans rfl
    have q9_1 : w'.cell? ⟨ga, 1, none⟩ = some (xl) := (blk_cell (blk_below hX9 hb) 1).trans rfl
    have eg := hd 9 109 _ (by decide) (by kernel_rfl) rfl rfl
    replace eg : T.getD 109 undef = .bool false := eg
    rw [if_pos (wanted_yes 9 109 false rfl rfl eg)]
    clear eg
    clear hd hB
    go_simp
    exact hK _ (Below.refl _ _)
  refine DetR.cons (o := { dst := some 111, op := Op.call { callee := Callee.value (Operand.func 29), args := #[Operand.tmp 110], argTypes := #[30] }, type := 24, pos := "law.go:114", after := #[{ on := 10, ground := Ground.data }, { on := 9, ground := Ground.chain }, { on := 9, ground := Ground.guard }], guard := some (9, false) }) (TermTold k24 ef es) rfl (by decide) (TermTold.grows _ _ _) (fun T w' hb hd hB K hK => ?sx61) ?rx61
  case sx61 =>
    have e110 := hd 10 110 _ (by decide) (by kernel_rfl) rfl rfl
    replace e110 : T.getD 110 undef = _ := e110
    have eg := hd 9 109 _ (by decide) (by kernel_rfl) rfl rfl
    replace eg : T.getD 109 undef = .bool false := eg
    rw [if_pos (wanted_yes 9 109 false rfl rfl eg)]
    clear eg
    have hcl := hF11 w' hb
    clear hd hB
    go_simp
    go_at_call 29
    refine hcl.mono ?_
    rintro e w2 ⟨u, rfl, h1, h2⟩
    exact hK _ _ h2 h1
  refine DetR.is (o := { dst := some 112, op := Op.load 24 (Operand.tmp 4), type := 24, pos := "law.go:114", after := #[{ on := 9, ground := Ground.guard }], guard := some (9, false) }) (u := ?ux62) rfl (by decide) (fun T w' hb hd hB K hK => ?sx62) ?rx62
  case sx62 =>
    have e4 := (hB 4 (by kernel_rfl)).trans hT4
    have q4_0 : w'.cell? ⟨gc, 0, none⟩ = some (af) := (blk_cell (blk_below hX4 hb) 0).trans rfl
    have q4_1 : w'.cell? ⟨gc, 1, none⟩ = some (al) := (blk_cell (blk_below hX4 hb) 1).trans rfl
    have eg := hd 9 109 _ (by decide) (by kernel_rfl) rfl rfl
    replace eg : T.getD 109 undef = .bool false := eg
    rw [if_pos (wanted_yes 9 109 false rfl rfl eg)]
    clear eg
    clear hd hB
    go_simp
    exact hK _ (Below.refl _ _)
  refine DetR.is (o := { dst := some 113, op := Op.call { callee := Callee.value (Operand.func 28), args := #[Operand.tmp 111, Operand.tmp 112], argTypes := #[24, 24] }, type := 4, pos := "law.go:114", after := #[{ on := 11, ground := Ground.data }, { on := 12, ground := Ground.data }, { on := 11, ground := Ground.chain }, { on := 9, ground := Ground.guard }], guard := some (9, false) }) (u := ?ux63) rfl (by decide) (fun T w' hb hd hB K hK => ?sx63) ?rx63
  case sx63 =>
    obtain ⟨A111, c111, e111, hl111, hC111⟩ := (hd 11 111 _ (by decide) (by kernel_rfl) rfl rfl)
    have e112 := hd 12 112 _ (by decide) (by kernel_rfl) rfl rfl
    replace e112 : T.getD 112 undef = _ := e112
    have eg := hd 9 109 _ (by decide) (by kernel_rfl) rfl rfl
    replace eg : T.getD 109 undef = .bool false := eg
    rw [if_pos (wanted_yes 9 109 false rfl rfl eg)]
    clear eg
    have hcl := hS2 w' A111 c111 hb hl111 hC111
    clear hd hB
    go_simp
    go_at_call 28
    refine hcl.mono ?_
    rintro e w2 ⟨rfl, h2⟩
    exact hK _ h2
  refine DetR.is (o := { dst := some 114, op := Op.unOp UnOp.not 4 (Operand.tmp 113), type := 4, pos := "law.go:114", after := #[{ on := 13, ground := Ground.data }, { on := 9, ground := Ground.guard }], guard := some (9, false) }) (u := .bool false) rfl (by decide) (fun T w' hb hd hB K hK => ?sx64) ?rx64
  case sx64 =>
    have e113 := hd 13 113 _ (by decide) (by kernel_rfl) rfl rfl
    replace e113 : T.getD 113 undef = _ := e113
    have eg := hd 9 109 _ (by decide) (by kernel_rfl) rfl rfl
    replace eg : T.getD 109 undef = .bool false := eg
    rw [if_pos (wanted_yes 9 109 false rfl rfl eg)]
    clear eg
    clear hd hB
    go_simp
    exact hK _ (Below.refl _ _)
  refine DetR.is (o := { dst := some 115, op := Op.pick (Operand.tmp 109) (Operand.const (Value.bool true)) (Operand.tmp 114), type := 4, pos := "law.go:114", after := #[{ on := 9, ground := Ground.data }, { on := 14, ground := Ground.data }], guard := none }) (u := .bool false) rfl (by decide) (fun T w' hb hd hB K hK => ?sx65) ?rx65
  case sx65 =>
    have e109 := hd 9 109 _ (by decide) (by kernel_rfl) rfl rfl
    replace e109 : T.getD 109 undef = _ := e109
    have e114 := hd 14 114 _ (by decide) (by kernel_rfl) rfl rfl
    replace e114 : T.getD 114 undef = _ := e114
    rw [if_pos (wanted_none _ rfl)]
    clear hd hB
    go_simp
    exact hK _ (Below.refl _ _)
  refine DetR.done [some 100, some 101, some 102, some 103, some 104, some 105, some 106, some 107, some 108, some 109, some 110, some 111, some 112, some 113, some 114, some 115] (by kernel_rfl) rfl (by kernel_rfl) ?_
  intro v w' hb hv
  exact hK v w' hb (hv 15 _ (by decide) rfl)
end Go.Proofs.Ytpfddihcikiofaa.P
end

section
namespace Go.Proofs.Ytpfddihcikiofaa.P
open Go.RowKit Go.Proofs.YtpfddihcikiofaaW.PrintWords Go.Proofs.YtpfddihcikiofaaW.PrintLast Go.Proofs.YtpfddihcikiofaaW.PrintMore
set_option linter.unusedVariables false
set_option linter.unusedSimpArgs false
theorem C1s {W : World} {g t : Nat} {l : List Int} {A : Option Addr} {c : Nat} (hl : l.length ≤ c) (h : Kd.C (Kd.int .i64) W A l.length l) (hb : W.heap[g]? = some (.cells #[.slice A l.length c] t (0, 0))) : Kd.C (Kd.slice 3 (Kd.int .i64)) W (some ⟨g, 0, none⟩) 1 [l] := by
  refine ⟨rfl, by simp, fun _ => ⟨_, rfl, fun j x hj => ?_⟩⟩
  match j with
  | 0 =>
    simp at hj
    subst hj
    refine ⟨[.slice A l.length c], rfl, ⟨A, c, rfl, hl, h⟩, fun i u hi => ?_⟩
    match i with
    | 0 =>
      simp at hi
      subst hi
      exact (blk_cell hb 0).trans rfl
    | i + 1 => simp at hi
  | j + 1 => simp at hj
set_option maxHeartbeats 8000000 in
set_option maxRecDepth 100000 in
theorem TermPlaces_walk (a b : S24) (n : Int) (p : List Int) (Ap : Option Addr) (cp : Nat) (A : Option Addr) (c : Nat) (A' : Option Addr) (c' : Nat) (w : World) (hn : 0 ≤ n ∧ n ≤ 255) (hPl : Kd.C (Kd.int .i64) w Ap p.length p) (hcp : p.length ≤ cp)
    (hA : k24.C w A a.f1.length a.f1) (hc : a.f1.length ≤ c) (hA' : k24.C w A' b.f1.length b.f1) (hc' : b.f1.length ≤ c') :
    Calls Try.prog 3 #[.agg #[.int .i64 a.f0, .slice A a.f1.length c], .agg #[.int .i64 b.f0, .slice A' b.f1.length c'], .int .u8 n, .slice Ap p.length cp] w fun e w' => e = .returned (.bool true) ∧ Below w.heap.size w w' := by
  have hmx : Try.prog.follows .mixedOrders = true := by kernel_rfl
  obtain ⟨ok, hFine, hok⟩ := Fine_spec [a, b] (by simp)
  obtain ⟨kF, hF⟩ := hFine.rounds
  have hbA : Aside0 (∀ w1, Below w.heap.size w w1 → k24.C w1 A a.f1.length a.f1) := ⟨fun w1 h => Kd.C_below hA h⟩
  have hbB : Aside0 (∀ w1, Below w.heap.size w w1 → k24.C w1 A' b.f1.length b.f1) := ⟨fun w1 h => Kd.C_below hA' h⟩
  have hbP : Aside0 (∀ w1, Below w.heap.size w w1 → Kd.C (Kd.int .i64) w1 Ap p.length p) := ⟨fun w1 h => Kd.C_below hPl h⟩
  have hcpz := Aside0.mk hcp
  clear hA hA' hFine hPl hcp
  go_enter Try.func3, Try.ntmps3
  cases ok with
  | false =>
    go_wp2_with (first | (go_at_call 20; refine (soriteslaw06_alive.calls true _ alive06).mono ?_; rintro e w1 ⟨rfl, hb1⟩; have hs1 := hb1.size; simp only [World.size_alloc] at hs1; have hB1 : Below w.heap.size w w1 := (below_alloc (below_alloc (Below.refl _ _) _) _).trans (hb1.mono (by simp; omega)); have hg0 : w1.heap[w.heap.size]? = some (.cells #[.int .i64 a.f0, .slice A a.f1.length c] 24 (0, 0)) := blk_below (blk_alloc (heap_alloc_new _ _) _) hb1; have hg1 : w1.heap[w.heap.size + 1]? = some (.cells #[.int .i64 b.f0, .slice A' b.f1.length c'] 24 (0, 0)) := blk_below (by have := heap_alloc_new (w.alloc (.cells #[.int .i64 a.f0, .slice A a.f1.length c] 24)) (.cells #[.int .i64 b.f0, .slice A' b.f1.length c'] 24); rw [World.size_alloc] at this; exact this) hb1; have hx0 : w1.cell? ⟨w.heap.size, 0, none⟩ = some (.int .i64 a.f0) := (blk_cell hg0 0).trans rfl; have hx1 : w1.cell? ⟨w.heap.size, 1, none⟩ = some (.slice A a.f1.length c) := (blk_cell hg0 1).trans rfl; have hy0 : w1.cell? ⟨w.heap.size + 1, 0, none⟩ = some (.int .i64 b.f0) := (blk_cell hg1 0).trans rfl; have hy1 : w1.cell? ⟨w.heap.size + 1, 1, none⟩ = some (.slice A' b.f1.length c') := (blk_cell hg1 1).trans rfl) | (go_at_call 21; refine (soriteslaw06_Fine.calls kF _ 2 [a, b] _ _ (C2 k24 rfl (K24 (hbA.out _ (below_alloc hB1 _)) hc) (K24 (hbB.out _ (below_alloc hB1 _)) hc') (heap_alloc_new _ _)) (by simp) hF).mono ?_; rintro e w2 ⟨rfl, hb2⟩; have hB2 : Below w.heap.size w w2 := (below_alloc hB1 _).trans (hb2.mono (by simp; omega)); have hh0 := blk_below (blk_alloc hg0 _) hb2; have hh1 := blk_below (blk_alloc hg1 _) hb2))
    go_ret
    exact ⟨rfl, hB2⟩
  | true =>
    have hoka := hok rfl a (by simp)
    have hokb := hok rfl b (by simp)
    have hna := Nat.le_trans (nodes_le a) hoka.2
    have hnb := Nat.le_trans (nodes_le b) hokb.2
    by_cases hp100 : 100 < p.length
    · have hpd : decide (100 < (p.length : Int)) = true := decide_eq_true (by omega)
      go_wp2_with (first | (go_at_call 20; refine (soriteslaw06_alive.calls true _ alive06).mono ?_; rintro e w1 ⟨rfl, hb1⟩; have hs1 := hb1.size; simp only [World.size_alloc] at hs1; have hB1 : Below w.heap.size w w1 := (below_alloc (below_alloc (Below.refl _ _) _) _).trans (hb1.mono (by simp; omega)); have hg0 : w1.heap[w.heap.size]? = some (.cells #[.int .i64 a.f0, .slice A a.f1.length c] 24 (0, 0)) := blk_below (blk_alloc (heap_alloc_new _ _) _) hb1; have hg1 : w1.heap[w.heap.size + 1]? = some (.cells #[.int .i64 b.f0, .slice A' b.f1.length c'] 24 (0, 0)) := blk_below (by have := heap_alloc_new (w.alloc (.cells #[.int .i64 a.f0, .slice A a.f1.length c] 24)) (.cells #[.int .i64 b.f0, .slice A' b.f1.length c'] 24); rw [World.size_alloc] at this; exact this) hb1; have hx0 : w1.cell? ⟨w.heap.size, 0, none⟩ = some (.int .i64 a.f0) := (blk_cell hg0 0).trans rfl; have hx1 : w1.cell? ⟨w.heap.size, 1, none⟩ = some (.slice A a.f1.length c) := (blk_cell hg0 1).trans rfl; have hy0 : w1.cell? ⟨w.heap.size + 1, 0, none⟩ = some (.int .i64 b.f0) := (blk_cell hg1 0).trans rfl; have hy1 : w1.cell? ⟨w.heap.size + 1, 1, none⟩ = some (.slice A' b.f1.length c') := (blk_cell hg1 1).trans rfl) | (go_at_call 21; refine (soriteslaw06_Fine.calls kF _ 2 [a, b] _ _ (C2 k24 rfl (K24 (hbA.out _ (below_alloc hB1 _)) hc) (K24 (hbB.out _ (below_alloc hB1 _)) hc') (heap_alloc_new _ _)) (by simp) hF).mono ?_; rintro e w2 ⟨rfl, hb2⟩; have hB2 : Below w.heap.size w w2 := (below_alloc hB1 _).trans (hb2.mono (by simp; omega)); have hh0 := blk_below (blk_alloc hg0 _) hb2; have hh1 := blk_below (blk_alloc hg1 _) hb2; have kk00 : w2.cell? ⟨w.heap.size, 0, none⟩ = some (.int .i64 a.f0) := (blk_cell hh0 0).trans rfl; have kk01 : w2.cell? ⟨w.heap.size, 1, none⟩ = some (.slice A a.f1.length c) := (blk_cell hh0 1).trans rfl; have kk10 : w2.cell? ⟨w.heap.size + 1, 0, none⟩ = some (.int .i64 b.f0) := (blk_cell hh1 0).trans rfl; have kk11 : w2.cell? ⟨w.heap.size + 1, 1, none⟩ = some (.slice A' b.f1.length c') := (blk_cell hh1 1).trans rfl))
      go_ret
      exact ⟨rfl, hB2⟩
    · have hpd : decide (100 < (p.length : Int)) = false := decide_eq_false (by omega)
      obtain ⟨kO, hO⟩ := (Of_spec a hoka.1).rounds
      have hfa := fit_of_ok a hoka.1 (by omega)
      have hfb := fit_of_ok b hokb.1 (by omega)
      have hpl := Places_is (t := a) (by omega)
      obtain ⟨ls, hls⟩ : ∃ ls, ls = (flatP [] a).map Prod.fst := ⟨_, rfl⟩
      rw [← hls] at hpl
      have hll : ls.length = (nodes a).length := by rw [hls, List.length_map, flatP_len]
      obtain ⟨ns, hns⟩ : ∃ ns, ns = nodes a := ⟨_, rfl⟩
      obtain ⟨kr, hr⟩ := (RPlaces_spec a hfa [] (by have := hfa.1; simp; omega)).rounds
      obtain ⟨ks, hs⟩ := (SamePlaces_spec ls ls (by omega) (fun x hx => by
        rw [hls] at hx
        obtain ⟨e, he, e1⟩ := List.mem_map.1 hx
        obtain ⟨q', g1, g2⟩ := flatP_at [] a e he
        have := at_len q' a e.2 g2
        rw [← e1, g1, List.nil_append]
        have := hfa.1
        omega)).rounds
      rw [decide_eq_true rfl] at hs
      obtain ⟨kf, hf⟩ := (RFlat_spec a hfa).rounds
      rw [← hls] at hr
      rw [← hns] at hf
      have FR := Aside0.mk (And.intro (show soritesref06_Places.f kr [] a.f0 a.f1 = some ls from hr) (And.intro (show soritesref06_SamePlaces.f ks ls ls = some true from hs) (show soritesref06_Flat.f kf a.f0 a.f1 = some ns from hf)))
      have FP := Aside0.mk (And.intro hpl (And.intro hls hll))
      have FF := Aside0.mk (And.intro hfa (And.intro hfb (And.intro hna hnb)))
      have FN := Aside0.mk hns
      have hall : ∀ k, k < ls.length → ∃ s1, atT (ls.getD k []) a = some s1 ∧ (ls.getD k []).length ≤ 60 ∧ ns[k]? = some s1 := by
        intro k hk
        have hlk : k < (flatP [] a).length := by rw [flatP_len]; omega
        have hm := List.getElem_mem hlk
        obtain ⟨q', g1, g2⟩ := flatP_at [] a _ hm
        have e1 : ls.getD k [] = q' := by rw [hls, List.getD_eq_getElem?_getD, List.getElem?_map, List.getElem?_eq_getElem hlk]; simpa using g1
        refine ⟨_, by rw [e1]; exact g2, ?_, ?_⟩
        · rw [e1]
          have := at_len q' a _ g2
          omega
        · rw [hns, ← flatP_snd [] a, List.getElem?_map, List.getElem?_eq_getElem hlk]
          rfl
      have hnsl : ns.length = ls.length := by rw [hns, hll]
      have hlp : 1 ≤ ls.length := by have := nodes_pos a; omega
      have hlm : ls.length ≤ 60 := by omega
      have FLS := Aside0.mk hls
      have FO := Aside0.mk hall
      have FNL := Aside0.mk hnsl
      have hj0 : 0 ≤ n % (ls.length : Int) := Int.emod_nonneg _ (by omega)
      have hj1 : n % (ls.length : Int) < ls.length := Int.emod_lt_of_pos _ (by omega)
      obtain ⟨m, hm⟩ : ∃ m : Nat, (m : Int) = n % (ls.length : Int) := ⟨(n % (ls.length : Int)).toNat, by omega⟩
      obtain ⟨zw, mw, ezw, zp, ezp, czp⟩ := put_both (u := b) hfa (k := m) (by omega) (by omega)
      obtain ⟨kp, hkp⟩ := ezw.rounds
      rw [← hls] at ezp
      obtain ⟨sm, hsm, hsm60, xx1⟩ := hall m (by omega)
      obtain ⟨zq, hzq, hzql, hzqf, xx2, xx3, xx4⟩ := puts_law (u := b) hsm
      rw [ezp] at hzq
      injection hzq with hzq
      subst hzq
      replace hzqf := hzqf hfa hfb (by omega)
      obtain ⟨kTy, hTy⟩ := (To_spec zp hzqf).rounds
      obtain ⟨kTa, hTa⟩ := (To_spec a hfa).rounds
      have hczw : cmpT (cloneT zp) zw = 0 := eqv_trans (cmp_clone zp) czp
      obtain ⟨kSy, hSy⟩ := (RSame_spec (cloneT zp) zw (eqv_fit (eqv_symm (cmp_clone zp)) hzqf)).rounds
      obtain ⟨kSa, hSa⟩ := (RSame_spec (cloneT a) a (eqv_fit (eqv_symm (cmp_clone a)) hfa)).rounds
      rw [hczw] at hSy
      rw [cmp_clone a] at hSa
      obtain ⟨kO2, hO2⟩ := (Of_spec b hokb.1).rounds
      have FQ := Aside0.mk (And.intro hm (And.intro (show soritesref06_Put.f kp a.f0 a.f1 (m : Int) b.f0 b.f1 = some (zw.f0, zw.f1, mw) from hkp) (And.intro ezp hzqf)))
      have FT := Aside0.mk (And.intro (show soriteslaw06_To.f kTy zp.f0 zp.f1 = some ((cloneT zp).f0, (cloneT zp).f1) from hTy) (And.intro (show soriteslaw06_To.f kTa a.f0 a.f1 = some ((cloneT a).f0, (cloneT a).f1) from hTa) (And.intro (show soritesref06_Same.f kSy (cloneT zp).f0 (cloneT zp).f1 zw.f0 zw.f1 = some true from hSy) (show soritesref06_Same.f kSa (cloneT a).f0 (cloneT a).f1 a.f0 a.f1 = some true from hSa))))
      have FM := Aside0.mk (And.intro hj0 (And.intro hj1 hlp))
      have FO2 := Aside0.mk (show soriteslaw06_Of.f kO2 b.f0 b.f1 = some (b.f0, b.f1) from hO2)
      have hl0 : ((ls.length : Int) == 0) = false := by rw [beq_eq_false_iff_ne]; omega
      clear hall hnsl hlp hj0 hj1 hm ezw hkp ezp czp hsm hsm60 hzql hzqf hTy hTa hczw hSy hSa hO2 xx1 xx2 xx3 xx4
      have HP100 := Aside0.mk hp100
      clear hpl hls hll hr hs hf hns hfa hfb hna hnb hp100
      go_wp2_with (first | (go_at_call 26; refine (soritesref06_Flat.calls kf a.f0 (fun _ => True) A c a.f1 ns w7 (Kd.V_mk hc (Kd.F_mono (F_old k24_heap (hbA.out _ (HB5.out.trans (HB7.out.mono HB5.out.size))) (Below.refl _ _)) (fun _ _ => trivial))) FR.out.2.2).mono ?_; rintro e w8 ⟨v0, rfl, hN, hb8⟩; obtain ⟨An, cn, hv0, hln, hCn⟩ := Kd.N_reads hN; subst hv0; have HB8 := Aside0.mk (HB7.out.trans (hb8.mono HB7.out.size)); have HCn := Aside0.mk hCn; have G9 := Aside0.mk (And.intro (blk_below G8.out.1 hb8) (And.intro (blk_below G8.out.2.1 hb8) (blk_below G8.out.2.2 hb8))); clear hN hb8 hCn) | (go_at_call 24; refine (soritesref06_SamePlaces.calls ks _ _ ls _ _ ls true w6 (Kd.C_below HCL.out HB56.out) HLL HCm.out hlm FR.out.2.1).mono ?_; rintro e w7 ⟨rfl, hb7d⟩; have HB7 := Aside0.mk (HB56.out.trans (hb7d.below.mono HB56.out.size)); have G8 := Aside0.mk (And.intro (blk_below G7.out.1 hb7d.below) (And.intro (blk_below G7.out.2.1 hb7d.below) (blk_below G7.out.2.2 hb7d.below))); have s700 : w7.cell? ⟨w.heap.size, 0, none⟩ = some (.int .i64 a.f0) := (blk_cell G8.out.1 0).trans rfl; have s701 : w7.cell? ⟨w.heap.size, 1, none⟩ = some (.slice A a.f1.length c) := (blk_cell G8.out.1 1).trans rfl; have s710 : w7.cell? ⟨w.heap.size + 1, 0, none⟩ = some (.int .i64 b.f0) := (blk_cell G8.out.2.1 0).trans rfl; have s711 : w7.cell? ⟨w.heap.size + 1, 1, none⟩ = some (.slice A' b.f1.length c') := (blk_cell G8.out.2.1 1).trans rfl; have s720 : w7.cell? ⟨w3.heap.size, 0, none⟩ = some (.int .i64 a.f0) := (blk_cell G8.out.2.2 0).trans rfl; have s721 : w7.cell? ⟨w3.heap.size, 1, none⟩ = some (.slice X0 a.f1.length q0) := (blk_cell G8.out.2.2 1).trans rfl; clear hb7d) | (go_at_call 25; refine (soritesref06_Places.calls kr (fun _ => True) (some ⟨w5.heap.size, 0, none⟩) 0 [] a.f0 A c a.f1 ls (w5.alloc (Obj.cells #[] 3)) (Kd.V_mk (by simp) (fun W' _ => ⟨rfl, by simp, fun h => absurd h (by simp)⟩)) (hbA.out _ (below_alloc HB5.out _)) hc FR.out.1).mono ?_; rintro e w6 ⟨v0, rfl, hN, hb6⟩; obtain ⟨Am, cm, hv0, hlm, hCm⟩ := Kd.N_reads hN; subst hv0; have HB56 := Aside0.mk ((below_alloc (Below.refl w5.heap.size w5) (Obj.cells #[] 3)).trans (hb6.mono (below_alloc (Below.refl w5.heap.size w5) (Obj.cells #[] 3)).size)); have HCm := Aside0.mk hCm; have G7 := Aside0.mk (And.intro (blk_below G6.out.1 hb6) (And.intro (blk_below G6.out.2.1 hb6) (blk_below G6.out.2.2 hb6))); clear hN hCm hb6) | (go_at_call 23; refine (term_Places.calls _ _ _ a.f1 ls (w3.alloc (.cells #[.int .i64 a.f0, .slice X0 a.f1.length q0] 30)) (Kd.C_below HC0.out (below_alloc (Below.refl _ _) _)) hq0 FP.out.1).mono ?_; rintro e w5 ⟨v0, rfl, hR, hb5⟩; obtain ⟨Al, cl, hv0⟩ := Kd.R_slice hR; subst hv0; have HCL := Aside0.mk (Kd.R_reads' hR).2.2; have HLL := (Kd.R_reads' hR).2.1; have G5 := Aside0.mk (And.intro (blk_below hg30 hb5) (And.intro (blk_below hg31 hb5) (blk_below hX3 hb5))); have G6 := Aside0.mk (And.intro (blk_alloc G5.out.1 (Obj.cells #[] 3)) (And.intro (blk_alloc G5.out.2.1 (Obj.cells #[] 3)) (blk_alloc G5.out.2.2 (Obj.cells #[] 3)))); have s500 : (w5.alloc (Obj.cells #[] 3)).cell? ⟨w.heap.size, 0, none⟩ = some (.int .i64 a.f0) := (blk_cell G6.out.1 0).trans rfl; have s501 : (w5.alloc (Obj.cells #[] 3)).cell? ⟨w.heap.size, 1, none⟩ = some (.slice A a.f1.length c) := (blk_cell G6.out.1 1).trans rfl; have s510 : (w5.alloc (Obj.cells #[] 3)).cell? ⟨w.heap.size + 1, 0, none⟩ = some (.int .i64 b.f0) := (blk_cell G6.out.2.1 0).trans rfl; have s511 : (w5.alloc (Obj.cells #[] 3)).cell? ⟨w.heap.size + 1, 1, none⟩ = some (.slice A' b.f1.length c') := (blk_cell G6.out.2.1 1).trans rfl; have s520 : (w5.alloc (Obj.cells #[] 3)).cell? ⟨w3.heap.size, 0, none⟩ = some (.int .i64 a.f0) := (blk_cell G6.out.2.2 0).trans rfl; have s521 : (w5.alloc (Obj.cells #[] 3)).cell? ⟨w3.heap.size, 1, none⟩ = some (.slice X0 a.f1.length q0) := (blk_cell G6.out.2.2 1).trans rfl; have HB5 := Aside0.mk (hB3.trans (hb5.mono hB3.size)); have HB35b := Aside0.mk ((below_alloc (Below.refl w3.heap.size w3) (.cells #[.int .i64 a.f0, .slice X0 a.f1.length q0] 30)).trans (hb5.mono (below_alloc (Below.refl w3.heap.size w3) (.cells #[.int .i64 a.f0, .slice X0 a.f1.length q0] 30)).size)); clear hR hb5) | (go_at_call 22; refine (soriteslaw06_Of.calls kO a.f0 A c a.f1 a.f0 a.f1 w2 (hbA.out _ hB2) hc hO).mono ?_; rintro e w3 ⟨v0, rfl, hR, hb3⟩; obtain ⟨X0, q0, hv0⟩ := Kd.R_slice hR; subst hv0; have HC0 := Aside0.mk (Kd.R_reads' hR).2.2; have hq0 := (Kd.R_reads' hR).2.1; have hg30 := blk_alloc (blk_below hh0 hb3) (.cells #[.int .i64 a.f0, .slice X0 a.f1.length q0] 30); have hg31 := blk_alloc (blk_below hh1 hb3) (.cells #[.int .i64 a.f0, .slice X0 a.f1.length q0] 30); have hX3 := heap_alloc_new w3 (.cells #[.int .i64 a.f0, .slice X0 a.f1.length q0] 30); have hb23 := hB2.trans (hb3.mono hB2.size); have hB3 := below_alloc hb23 (.cells #[.int .i64 a.f0, .slice X0 a.f1.length q0] 30); clear hR hb3) | (go_at_call 21; refine (soriteslaw06_Fine.calls kF _ 2 [a, b] _ _ (C2 k24 rfl (K24 (hbA.out _ (below_alloc hB1 _)) hc) (K24 (hbB.out _ (below_alloc hB1 _)) hc') (heap_alloc_new _ _)) (by simp) hF).mono ?_; rintro e w2 ⟨rfl, hb2⟩; have hB2 : Below w.heap.size w w2 := (below_alloc hB1 _).trans (hb2.mono (by simp; omega)); have hh0 := blk_below (blk_alloc hg0 _) hb2; have hh1 := blk_below (blk_alloc hg1 _) hb2; have kk00 : w2.cell? ⟨w.heap.size, 0, none⟩ = some (.int .i64 a.f0) := (blk_cell hh0 0).trans rfl; have kk01 : w2.cell? ⟨w.heap.size, 1, none⟩ = some (.slice A a.f1.length c) := (blk_cell hh0 1).trans rfl; have kk10 : w2.cell? ⟨w.heap.size + 1, 0, none⟩ = some (.int .i64 b.f0) := (blk_cell hh1 0).trans rfl; have kk11 : w2.cell? ⟨w.heap.size + 1, 1, none⟩ = some (.slice A' b.f1.length c') := (blk_cell hh1 1).trans rfl) | (go_at_call 20; refine (soriteslaw06_alive.calls true _ alive06).mono ?_; rintro e w1 ⟨rfl, hb1⟩; have hs1 := hb1.size; simp only [World.size_alloc] at hs1; have hB1 : Below w.heap.size w w1 := (below_alloc (below_alloc (Below.refl _ _) _) _).trans (hb1.mono (by simp; omega)); have hg0 : w1.heap[w.heap.size]? = some (.cells #[.int .i64 a.f0, .slice A a.f1.length c] 24 (0, 0)) := blk_below (blk_alloc (heap_alloc_new _ _) _) hb1; have hg1 : w1.heap[w.heap.size + 1]? = some (.cells #[.int .i64 b.f0, .slice A' b.f1.length c'] 24 (0, 0)) := blk_below (by have := heap_alloc_new (w.alloc (.cells #[.int .i64 a.f0, .slice A a.f1.length c] 24)) (.cells #[.int .i64 b.f0, .slice A' b.f1.length c'] 24); rw [World.size_alloc] at this; exact this) hb1; have hx0 : w1.cell? ⟨w.heap.size, 0, none⟩ = some (.int .i64 a.f0) := (blk_cell hg0 0).trans rfl; have hx1 : w1.cell? ⟨w.heap.size, 1, none⟩ = some (.slice A a.f1.length c) := (blk_cell hg0 1).trans rfl; have hy0 : w1.cell? ⟨w.heap.size + 1, 0, none⟩ = some (.int .i64 b.f0) := (blk_cell hg1 0).trans rfl; have hy1 : w1.cell? ⟨w.heap.size + 1, 1, none⟩ = some (.slice A' b.f1.length c') := (blk_cell hg1 1).trans rfl))
      have HLN := Aside0.mk hln
      have HBW8 := Aside0.mk (HB5.out.trans (HB8.out.mono HB5.out.size))
      have HCA := Aside0.mk (Kd.C_below HC0.out (HB35b.out.trans (HB8.out.mono HB35b.out.size)))
      have HCL8 := Aside0.mk (Kd.C_below HCL.out HB8.out)
      clear G5 G6 G7 G8 HCm HB56 HB7 HC0 HCL hln FP FR hg30 hg31 hX3 hh0 hh1 hx0 hx1 hy0 hy1 hg0 hg1 hb1 hb2 hB1 hB2 kk00 kk01 kk10 kk11 s500 s501 s510 s511 s520 s521 s700 s701 s710 s711 s720 s721 hF hok hO hs1 hpd hb23 hB3
      go_loopw [12] (fun i wr => ∃ k : Nat, k ≤ ls.length ∧ i = .int .i64 k ∧ Aside0 (Below w8.heap.size w8 wr)) (fun i wr => ls.length - (intOf i).toNat)
      case atStart => exact ⟨0, Nat.zero_le _, rfl, ⟨Below.refl _ _⟩⟩
      case round =>
        obtain ⟨k, hk, rfl, hb⟩ := hrel
        by_cases hlt : k < ls.length
        · obtain ⟨s1, hs1, hq60, hns1⟩ := FO.out k hlt
          obtain ⟨ad, cc, hAl, hcc0, hK, hcc⟩ := ReadsRow.get_ (Kd.C_below HCL8.out hb.out) [] (k : Int) (by omega) (by omega)
          subst hAl
          obtain ⟨Ak, ck, hce, hlk, hCk⟩ := hK
          subst hce
          rw [Int.toNat_natCast] at hcc hlk hCk
          obtain ⟨q', hq'⟩ : ∃ q', q' = ls.getD k [] := ⟨_, rfl⟩
          rw [← hq'] at hs1 hq60 hcc hlk hCk
          have hcell : wr.cell? (ad.add k) = some (.slice Ak q'.length ck) := by
            have h9 := hcc 0 _ rfl
            rw [show (Kd.slice 3 (Kd.int .i64)).sz = 1 from rfl, Nat.mul_one, Nat.add_zero] at h9
            exact h9
          obtain ⟨ka1, ea1⟩ := (At_spec q' [] a FF.out.1 (by simp; omega)).rounds
          rw [hs1] at ea1
          have hf1 := at_fit hs1 FF.out.1
          obtain ⟨kT1, hT1⟩ := (To_spec s1 hf1).rounds
          obtain ⟨kS1, hS1⟩ := (RSame_spec (cloneT s1) s1 (eqv_fit (eqv_symm (cmp_clone s1)) hf1)).rounds
          rw [cmp_clone s1] at hS1
          have EA := Aside0.mk (And.intro (show term_At.f ka1 a.f0 a.f1 q' = some (s1.f0, s1.f1, true) from ea1) (And.intro (show soriteslaw06_To.f kT1 s1.f0 s1.f1 = some ((cloneT s1).f0, (cloneT s1).f1) from hT1) (show soritesref06_Same.f kS1 (cloneT s1).f0 (cloneT s1).f1 s1.f0 s1.f1 = some true from hS1)))
          have hCk' := Aside0.mk hCk
          have hLk := Aside0.mk hlk
          have HN1 := Aside0.mk hns1
          have HCELL := Aside0.mk hcell
          clear hcc hcc0 hCk hlk hs1 hq60 hq' ea1 hT1 hS1 hf1 hns1 hcell
          go_wp2
          refine TermPlaces_r13 (i := (k : Int)) (ga := w3.heap.size) (m := ls.length) (r := s1) (b := true) (ad := ad) (Aq := Ak) (lq := q'.length) (cq := ck) (by kernel_rfl) rfl rfl rfl (blk_below G9.out.2.2 hb.out) ⟨by omega, by omega⟩ (by rw [Int.toNat_natCast]; exact HCELL.out) ?_ ?_
          · intro w1 hb1
            refine (term_At.calls ka1 a.f0 (fun k => k < wr.heap.size) X0 q0 a.f1 Ak ck q' s1.f0 s1.f1 true w1 (Kd.V_mk hq0 (F_old k30_heap (Kd.C_below HCA.out hb.out) hb1)) (Kd.C_below hCk'.out hb1) hLk.out EA.out.1).mono ?_
            rintro e w2 ⟨v1, rfl, hV, hb2⟩
            obtain ⟨A', c', hv1, hl, hF⟩ := hV
            subst hv1
            exact ⟨A', c', rfl, hl, hF, hb2⟩
          intro v w9 g1 A1 c1 hb9 hv11 hv9 hg1 hbx1 hl1 hF1
          simp only [layL, Nat.reduceAdd, List.setIfInBounds_toArray, List.set_cons_zero, List.set_cons_succ, hv11, hv9]
          clear hv11 hv9
          generalize v 0 = va0
          generalize v 1 = va1
          generalize v 2 = va2
          generalize v 3 = va3
          generalize v 4 = va4
          generalize v 5 = va5
          generalize v 6 = va6
          generalize v 7 = va7
          generalize v 8 = va8
          clear v
          have hbw := hb.out.trans (hb9.mono hb.out.size)
          obtain ⟨ad2, A2, c2, hAl2, hx0, hx1, hl2, hC2⟩ := at_T24 (Kd.C_below HCn.out hbw) (k : Int) (by omega) (by have := FNL.out; omega)
          subst hAl2
          have hrd : rd_T24 ns (k : Int) = s1 := by
            have hkn : k < ns.length := by have := FNL.out; omega
            rw [rd24_at ns k hkn]
            have := HN1.out
            rw [List.getElem?_eq_getElem hkn] at this
            injection this
          rw [hrd] at hx0 hx1 hl2 hC2
          have HF1 := Aside0.mk (Kd.F_now hF1)
          have HL1 := Aside0.mk hl1
          have HX1 := Aside0.mk hbx1
          have HX01 := Aside0.mk (And.intro hx0 hx1)
          have HC2 := Aside0.mk hC2
          have HL2 := Aside0.mk hl2
          have HBW := Aside0.mk hbw
          clear hrd hx0 hx1 hC2 hl2 hF1 hl1 hbx1 hb9 hbw hg1
          go_wp2
          refine TermPlaces_r14 (i := (k : Int)) (ga := g1) (m := ns.length) (ad := ad2) (df := (cloneT s1).f0) (ds := (cloneT s1).f1) (by kernel_rfl) rfl rfl rfl rfl HX1.out ?_ (by omega) (by have := FNL.out; omega) HX01.out.1 HX01.out.2 ?_ ?_
          · intro w1 hb1; exact (soriteslaw06_To.calls kT1 _ _ _ s1.f1 _ _ w1 (Kd.C_below HF1.out hb1) HL1.out EA.out.2.1).mono (fun e w2 ⟨v1, h1, h2, h3⟩ => ⟨_, h1, TermTold.of h2, h3⟩)
          · intro w1 Ac cc hb1 hl hC; exact soritesref06_Same.calls kS1 _ _ _ (cloneT s1).f1 _ _ _ s1.f1 true w1 hC hl (Kd.C_below HC2.out hb1) HL2.out EA.out.2.2
          intro v w10 hb10 hv11
          simp only [layL, Nat.reduceAdd, List.setIfInBounds_toArray, List.set_cons_zero, List.set_cons_succ, hv11]
          clear hv11
          generalize v 0 = vb0
          generalize v 1 = vb1
          generalize v 2 = vb2
          generalize v 3 = vb3
          generalize v 4 = vb4
          generalize v 5 = vb5
          generalize v 6 = vb6
          generalize v 7 = vb7
          generalize v 8 = vb8
          generalize v 9 = vb9
          generalize v 10 = vb10
          clear v
          have HB10 := Aside0.mk (HBW.out.trans (hb10.mono HBW.out.size))
          clear hb10
          go_wp2
          go_roundw
          case rel => exact ⟨k + 1, by omega, by go_num, HB10⟩
          case measure => simp [intOf]; omega
        · have hke : k = ls.length := by omega
          subst hke
          have HB9 := Aside0.mk hb.out
          have hj0 := FM.out.1
          have hj1 := FM.out.2.1
          obtain ⟨ad, cc, hAl, hcc0, hK, hcc⟩ := ReadsRow.get_ (Kd.C_below HCL8.out hb.out) [] (n % (ls.length : Int)) hj0 hj1
          subst hAl
          obtain ⟨Aq, cq, hce, hlq, hCq⟩ := hK
          subst hce
          obtain ⟨q, hq⟩ : ∃ q, q = ls.getD (n % (ls.length : Int)).toNat [] := ⟨_, rfl⟩
          rw [← hq] at hcc hlq hCq
          have hcell : wr.cell? (ad.add (n % (ls.length : Int)).toNat) = some (.slice Aq q.length cq) := by
            have h9 := hcc 0 _ rfl
            rw [show (Kd.slice 3 (Kd.int .i64)).sz = 1 from rfl, Nat.mul_one, Nat.add_zero] at h9
            exact h9
          have HCELL := Aside0.mk hcell
          have HCq := Aside0.mk hCq
          have HLq := Aside0.mk hlq
          have HQ := Aside0.mk hq
          have hmq : (n % (ls.length : Int)).toNat = m := by have := FQ.out.1; omega
          have HZP : Aside0 (putT q a b = some zp) := ⟨by rw [hq, hmq]; exact FQ.out.2.2.1⟩
          have HZW : Aside0 (soritesref06_Put.f kp a.f0 a.f1 (n % (ls.length : Int)) b.f0 b.f1 = some (zw.f0, zw.f1, mw)) := ⟨by rw [← FQ.out.1]; exact FQ.out.2.1⟩
          clear hmq
          have GR := Aside0.mk (And.intro (blk_below G9.out.1 hb.out) (And.intro (blk_below G9.out.2.1 hb.out) (blk_below G9.out.2.2 hb.out)))
          clear hj0 hj1 hcc hcc0 hlq hCq hq hcell hlt hk
          have hl1 : ¬ ((ls.length : Int) = 0) := by have := FM.out.2.2; omega
          have hl2 : ls.length ≠ 0 := by have := FM.out.2.2; omega
          go_wp2
          refine TermPlaces_r17 (i := n % (ls.length : Int)) (ga := w3.heap.size) (gu := w.heap.size + 1) (m := ls.length) (r := zp) (ut := b) (b := true) (ad := ad) (Aq := Aq) (lq := q.length) (cq := cq) (by kernel_rfl) rfl rfl rfl GR.out.2.2 rfl GR.out.2.1 ⟨FM.out.1, FM.out.2.1⟩ HCELL.out ?_ ?_ ?_
          · intro w1 hb1
            have hbw1 : Below w.heap.size w w1 := HBW8.out.trans ((HB9.out.trans (hb1.mono HB9.out.size)).mono HBW8.out.size)
            refine (soriteslaw06_Of.calls kO2 b.f0 A' c' b.f1 b.f0 b.f1 w1 (hbB.out _ hbw1) hc' FO2.out).mono ?_
            rintro e w2 ⟨v1, rfl, hR, hb2⟩
            obtain ⟨A2, c2, hv⟩ := Kd.R_slice hR
            subst hv
            exact ⟨A2, c2, rfl, (Kd.R_reads' hR).2.1, Kd.F_mono (Kd.R_F (Kd.R_bound hR)) (fun k hk => hk.2.1), hb2⟩
          · intro w1 A3 c3 ok hb1 hl3 hF3
            have hput := Put_any q a b (fun k => k < wr.heap.size ∨ ok k) X0 Aq A3 q0 cq c3 w1 FF.out.1 FF.out.2.1 (Kd.F_mono (F_old k30_heap (Kd.C_below HCA.out HB9.out) hb1) (fun k hk => .inl hk)) hq0 (Kd.C_below HCq.out hb1) HLq.out (Kd.F_mono hF3 (fun k hk => .inr hk)) hl3
            rw [HZP.out] at hput
            simp only [Option.getD_some, Option.isSome_some] at hput
            exact hput
          intro v w9 g1 A1 c1 hb9 hv13 hv11 hg1 hbx1 hl1 hF1
          simp only [layL, Nat.reduceAdd, List.setIfInBounds_toArray, List.set_cons_zero, List.set_cons_succ, hv13, hv11]
          clear hv13 hv11
          generalize v 0 = vc0
          generalize v 1 = vc1
          generalize v 2 = vc2
          generalize v 3 = vc3
          generalize v 4 = vc4
          generalize v 5 = vc5
          generalize v 6 = vc6
          generalize v 7 = vc7
          generalize v 8 = vc8
          generalize v 9 = vc9
          generalize v 10 = vc10
          clear v
          have HBW9 := Aside0.mk (HBW8.out.trans ((HB9.out.trans (hb9.mono HB9.out.size)).mono HBW8.out.size))
          have G9' := Aside0.mk (And.intro (blk_below GR.out.1 hb9) (And.intro (blk_below GR.out.2.1 hb9) (blk_below GR.out.2.2 hb9)))
          have s900 : w9.cell? ⟨w.heap.size, 0, none⟩ = some (.int .i64 a.f0) := (blk_cell G9'.out.1 0).trans rfl; have s901 : w9.cell? ⟨w.heap.size, 1, none⟩ = some (.slice A a.f1.length c) := (blk_cell G9'.out.1 1).trans rfl; have s910 : w9.cell? ⟨w.heap.size + 1, 0, none⟩ = some (.int .i64 b.f0) := (blk_cell G9'.out.2.1 0).trans rfl; have s911 : w9.cell? ⟨w.heap.size + 1, 1, none⟩ = some (.slice A' b.f1.length c') := (blk_cell G9'.out.2.1 1).trans rfl; have s920 : w9.cell? ⟨w3.heap.size, 0, none⟩ = some (.int .i64 a.f0) := (blk_cell G9'.out.2.2 0).trans rfl; have s921 : w9.cell? ⟨w3.heap.size, 1, none⟩ = some (.slice X0 a.f1.length q0) := (blk_cell G9'.out.2.2 1).trans rfl
          have HY1 := Aside0.mk hbx1
          have HFy := Aside0.mk (Kd.F_now hF1)
          have HLy := Aside0.mk hl1
          have HB89 := Aside0.mk (HB9.out.trans (hb9.mono HB9.out.size))
          clear hg1 hbx1 hl1 hF1 hb9
          go_wp2_with (go_at_call 31; refine (soritesref06_Put.calls kp a.f0 (fun _ => True) A c a.f1 (n % (ls.length : Int)) b.f0 (fun _ => True) A' c' b.f1 zw.f0 zw.f1 mw w9 (Kd.V_mk hc (Kd.F_mono (F_old k24_heap (hbA.out _ HBW9.out) (Below.refl _ _)) (fun _ _ => trivial))) (Kd.V_mk hc' (Kd.F_mono (F_old k24_heap (hbB.out _ HBW9.out) (Below.refl _ _)) (fun _ _ => trivial))) HZW.out).mono ?_; rintro e w10 ⟨v1, rfl, hV, hb10⟩; obtain ⟨Aw, cw, hv1, hlw, hFw⟩ := hV; subst hv1; have HFw := Aside0.mk (Kd.F_now hFw); have HLw := Aside0.mk hlw; have HB10 := Aside0.mk hb10; clear hb10 hlw hFw)
          have c10 := below_alloc HB10.out (Obj.cells #[.int .i64 zw.f0, .slice Aw zw.f1.length cw] 24)
          have Y1 := blk_below HY1.out c10
          have Yw := heap_alloc_new w10 (Obj.cells #[.int .i64 zw.f0, .slice Aw zw.f1.length cw] 24)
          have YX := blk_below G9'.out.2.2 c10
          have YA := blk_below G9'.out.1 c10
          have YB := blk_below G9'.out.2.1 c10
          have HW10 := Aside0.mk (HBW9.out.trans (c10.mono HBW9.out.size))
          have HCA10 := Aside0.mk (Kd.C_below HCA.out (HB89.out.trans (c10.mono HB89.out.size)))
          have HCy := Aside0.mk (Kd.C_below HFy.out c10)
          have HCw := Aside0.mk (Kd.C_below HFw.out (below_alloc (Below.refl _ _) (Obj.cells #[.int .i64 zw.f0, .slice Aw zw.f1.length cw] 24)))
          have HCL10 := Aside0.mk (Kd.C_below HCL8.out (HB89.out.trans (c10.mono HB89.out.size)))
          obtain ⟨w11, hw11⟩ : ∃ w11, w11 = w10.alloc (Obj.cells #[.int .i64 zw.f0, .slice Aw zw.f1.length cw] 24) := ⟨_, rfl⟩
          rw [← hw11] at Y1 Yw YX YA YB HW10 HCA10 HCy HCw HCL10 ⊢
          clear hw11 c10 s900 s901 s910 s911 s920 s921
          refine TermPlaces_r19 (gy := g1) (gw := w10.heap.size) (ga := w3.heap.size) (gc := w.heap.size) (df := (cloneT zp).f0) (ds := (cloneT zp).f1) (ef := (cloneT a).f0) (es := (cloneT a).f1) (by kernel_rfl) rfl rfl Y1 rfl Yw rfl YX rfl YA ?_ ?_ ?_ ?_ ?_
          · intro w1 hb1; exact (soriteslaw06_To.calls kTy _ _ _ zp.f1 _ _ w1 (Kd.C_below HCy.out hb1) HLy.out FT.out.1).mono (fun e w2 ⟨v1, h1, h2, h3⟩ => ⟨_, h1, TermTold.of h2, h3⟩)
          · intro w1 hb1; exact (soriteslaw06_To.calls kTa _ _ _ a.f1 _ _ w1 (Kd.C_below HCA10.out hb1) hq0 FT.out.2.1).mono (fun e w2 ⟨v1, h1, h2, h3⟩ => ⟨_, h1, TermTold.of h2, h3⟩)
          · intro w1 Ac cc hb1 hl hC; exact soritesref06_Same.calls kSy _ _ _ (cloneT zp).f1 _ _ _ zw.f1 true w1 hC hl (Kd.C_below HCw.out hb1) HLw.out FT.out.2.2.1
          · intro w1 Ac cc hb1 hl hC; exact soritesref06_Same.calls kSa _ _ _ (cloneT a).f1 _ _ _ a.f1 true w1 hC hl (hbA.out _ (HW10.out.trans (hb1.mono HW10.out.size))) hc FT.out.2.2.2
          intro v w12 hb12 hv15
          simp only [layL, Nat.reduceAdd, List.setIfInBounds_toArray, List.set_cons_zero, List.set_cons_succ, hv15]
          clear hv15
          generalize v 0 = vd0
          generalize v 1 = vd1
          generalize v 2 = vd2
          generalize v 3 = vd3
          generalize v 4 = vd4
          generalize v 5 = vd5
          generalize v 6 = vd6
          generalize v 7 = vd7
          generalize v 8 = vd8
          generalize v 9 = vd9
          generalize v 10 = vd10
          generalize v 11 = vd11
          generalize v 12 = vd12
          generalize v 13 = vd13
          generalize v 14 = vd14
          clear v
          have HW12 := Aside0.mk (HW10.out.trans (hb12.mono HW10.out.size))
          have HCA12 := Aside0.mk (Kd.C_below HCA10.out hb12)
          have HCL12 := Aside0.mk (Kd.C_below HCL10.out hb12)
          have GX := Aside0.mk (And.intro (blk_below YB hb12) (blk_below YX hb12))
          clear Y1 Yw YX YA YB HW10 HCA10 HCy HCw HCL10 hb12 HFy HLy HFw HLw HB10 HB89 HY1 G9' GR HBW9 HB9 HCA HCL8 G9 HBW8 HCn FT HLq HCq HCELL HZP HZW
          go_wp2
          go_loopw [20, 21] (fun u i wr2 => ∃ k : Nat, k ≤ ls.length ∧ u = .bool (decide (p ∈ ls.take k)) ∧ i = .int .i64 k ∧ Aside0 (Below w12.heap.size w12 wr2)) (fun u i wr2 => ls.length - (intOf i).toNat)
          case atStart => exact ⟨0, Nat.zero_le _, rfl, rfl, ⟨Below.refl _ _⟩⟩
          case round =>
            obtain ⟨k, hk, rfl, rfl, hb⟩ := hrel
            by_cases hlt : k < ls.length
            · obtain ⟨ad', cc, hAl, hcc0, hK, hcc⟩ := ReadsRow.get_ (Kd.C_below HCL12.out hb.out) [] (k : Int) (by omega) (by omega)
              injection hAl with hAl
              subst hAl
              obtain ⟨Ak, ck, hce, hlk, hCk⟩ := hK
              subst hce
              rw [Int.toNat_natCast] at hcc hlk hCk
              obtain ⟨s1, hs1, hq60, hns1⟩ := FO.out k hlt
              obtain ⟨q', hq'⟩ : ∃ q', q' = ls.getD k [] := ⟨_, rfl⟩
              rw [← hq'] at hcc hlk hCk hq60
              have hcell : wr.cell? (ad.add k) = some (.slice Ak q'.length ck) := by
                have h9 := hcc 0 _ rfl
                rw [show (Kd.slice 3 (Kd.int .i64)).sz = 1 from rfl, Nat.mul_one, Nat.add_zero] at h9
                exact h9
              have htk : ls.take (k + 1) = ls.take k ++ [q'] := by
                rw [List.take_succ_eq_append_getElem hlt, hq', List.getD_eq_getElem?_getD, List.getElem?_eq_getElem hlt, Option.getD_some]
              obtain ⟨bk, hbk⟩ : ∃ bk, bk = decide (p ∈ ls.take k) := ⟨_, rfl⟩
              rw [← hbk]
              cases bk with
              | true =>
                have HTK : Aside0 (decide (p ∈ ls.take (k + 1)) = true) := ⟨by rw [htk]; simp [of_decide_eq_true hbk.symm]⟩
                clear hcc hcc0 hlk hCk hs1 hq60 hns1 hq' hcell htk hbk
                go_wp2
                go_roundw
                case rel => exact ⟨k + 1, by omega, by rw [HTK.out], by go_num, hb⟩
                case measure => simp [intOf]; omega
              | false =>
                obtain ⟨ks2, hs2⟩ := (SamePlaces_spec [q'] [p] (by simp) (fun x hx => by simp only [List.mem_singleton] at hx; subst hx; omega)).rounds
                have HTK : Aside0 (decide (p ∈ ls.take (k + 1)) = decide ([q'] = [p])) := ⟨by
                  rw [htk, decide_eq_decide]
                  have := of_decide_eq_false hbk.symm
                  simp [this, eq_comm]⟩
                have hCk' := Aside0.mk hCk
                have hLk := Aside0.mk hlk
                have FS := Aside0.mk hs2
                clear hcc hcc0 hlk hCk hs1 hq60 hns1 hq' htk hbk hs2
                generalize decide ([q'] = [p]) = dq at HTK FS
                go_wp2_with (go_at_call 24; refine (soritesref06_SamePlaces.calls ks2 _ _ [q'] _ _ [p] dq ((wr.alloc (Obj.cells #[.slice Ak q'.length ck] 25)).alloc (Obj.cells #[.slice Ap p.length cp] 25)) (C1s hLk.out (Kd.C_below hCk'.out (below_alloc (below_alloc (Below.refl _ _) _) _)) (blk_alloc (heap_alloc_new wr (Obj.cells #[.slice Ak q'.length ck] 25)) (Obj.cells #[.slice Ap p.length cp] 25))) (by simp) (C1s hcpz.out (hbP.out _ (below_alloc (below_alloc (HW12.out.trans (hb.out.mono HW12.out.size)) _) _)) (by have h9 := heap_alloc_new (wr.alloc (Obj.cells #[.slice Ak q'.length ck] 25)) (Obj.cells #[.slice Ap p.length cp] 25); rw [World.size_alloc] at h9; exact h9)) (by simp) FS.out).mono ?_; rintro e w13 ⟨rfl, hb13d⟩; have HB13 := Aside0.mk ((below_alloc (below_alloc (Below.refl wr.heap.size wr) (Obj.cells #[.slice Ak q'.length ck] 25)) (Obj.cells #[.slice Ap p.length cp] 25)).trans (hb13d.below.mono (below_alloc (below_alloc (Below.refl wr.heap.size wr) (Obj.cells #[.slice Ak q'.length ck] 25)) (Obj.cells #[.slice Ap p.length cp] 25)).size)); clear hb13d)
                go_roundw
                case rel => exact ⟨k + 1, by omega, by rw [HTK.out], by go_num, ⟨hb.out.trans (HB13.out.mono hb.out.size)⟩⟩
                case measure => simp [intOf]; omega
            · have hke : k = ls.length := by omega
              subst hke
              have hkn := known_iff p a
              rw [← FLS.out] at hkn
              rw [List.take_length]
              have GXr := Aside0.mk (And.intro (blk_below GX.out.1 hb.out) (blk_below GX.out.2 hb.out))
              have x0 : wr.cell? ⟨w3.heap.size, 0, none⟩ = some (.int .i64 a.f0) := (blk_cell GXr.out.2 0).trans rfl
              have x1 : wr.cell? ⟨w3.heap.size, 1, none⟩ = some (.slice X0 a.f1.length q0) := (blk_cell GXr.out.2 1).trans rfl
              have HB13 := Aside0.mk hb.out
              obtain ⟨kz, ez⟩ := (At_spec p [] a FF.out.1 (by have := HP100.out; simp; omega)).rounds
              cases ho : atT p a with
              | none =>
                rw [ho] at hkn ez
                have hdk : decide (p ∈ ls) = false := decide_eq_false (fun h => by simpa using hkn.1 h)
                rw [hdk]
                have FZ := Aside0.mk (show term_At.f kz a.f0 a.f1 p = some ((0 : Int), ([] : List S30), false) from ez)
                have HPN := Aside0.mk (putT_none p a b ho)
                clear hkn ez ho hdk hlt hk
                go_wp2_with (go_at_call 27; refine (term_At.calls kz a.f0 (fun _ => True) X0 q0 a.f1 Ap cp p ((0 : Int)) (([] : List S30)) false wr (Kd.V_mk hq0 (Kd.F_mono (F_old k30_heap (Kd.C_below HCA12.out HB13.out) (Below.refl _ _)) (fun _ _ => trivial))) (hbP.out _ (HW12.out.trans (HB13.out.mono HW12.out.size))) hcpz.out FZ.out).mono ?_; rintro e w14 ⟨v1, rfl, hV, hb14⟩; obtain ⟨At, ct, hv1, hlt, hFt⟩ := hV; subst hv1; have HB14 := Aside0.mk hb14; clear hlt hFt hb14)
                have c14 := below_alloc HB14.out (Obj.cells #[.int .i64 0, .slice At 0 ct] 30)
                have Y14 := heap_alloc_new w14 (Obj.cells #[.int .i64 0, .slice At 0 ct] 30)
                obtain ⟨w15, hw15⟩ : ∃ w15, w15 = w14.alloc (Obj.cells #[.int .i64 0, .slice At 0 ct] 30) := ⟨_, rfl⟩
                try rw [← hw15] at c14 Y14 ⊢
                have HB15 := Aside0.mk (HB13.out.trans (c14.mono HB13.out.size))
                have YX := Aside0.mk (blk_below GX.out.2 HB15.out)
                have YB := Aside0.mk (blk_below GX.out.1 HB15.out)
                have Y15 := Aside0.mk Y14
                clear hw15 c14 x0 x1 Y14
                refine TermPlaces_r27 (ga := w3.heap.size) (gu := w.heap.size + 1) (r := (⟨0, []⟩ : S30)) (ut := b) (b := false) (Aq := Ap) (lq := p.length) (cq := cp) (by kernel_rfl) rfl rfl YX.out rfl YB.out ?_ ?_ ?_
                · intro w1 hb1
                  have hbw1 : Below w.heap.size w w1 := HW12.out.trans ((HB15.out.trans (hb1.mono HB15.out.size)).mono HW12.out.size)
                  refine (soriteslaw06_Of.calls kO2 b.f0 A' c' b.f1 b.f0 b.f1 w1 (hbB.out _ hbw1) hc' FO2.out).mono ?_
                  rintro e w2 ⟨v1, rfl, hR, hb2⟩
                  obtain ⟨A2, c2, hv⟩ := Kd.R_slice hR
                  subst hv
                  exact ⟨A2, c2, rfl, (Kd.R_reads' hR).2.1, Kd.F_mono (Kd.R_F (Kd.R_bound hR)) (fun k hk => hk.2.1), hb2⟩
                · intro w1 A3 c3 ok hb1 hl3 hF3
                  have hbw1 : Below w.heap.size w w1 := HW12.out.trans ((HB15.out.trans (hb1.mono HB15.out.size)).mono HW12.out.size)
                  have hput := Put_any p a b (fun k => k < w15.heap.size ∨ ok k) X0 Ap A3 q0 cp c3 w1 FF.out.1 FF.out.2.1 (Kd.F_mono (F_old k30_heap (Kd.C_below HCA12.out HB15.out) hb1) (fun k hk => .inl hk)) hq0 (hbP.out _ hbw1) hcpz.out (Kd.F_mono hF3 (fun k hk => .inr hk)) hl3
                  rw [HPN.out] at hput
                  simp only [Option.getD_some, Option.isSome_some, Option.getD_none, Option.isSome_none] at hput
                  exact hput
                intro v w16 g1 A1 c1 hb16 hv10 hv8 hg1 hbx1 hl1 hF1
                simp only [layL, Nat.reduceAdd, List.setIfInBounds_toArray, List.set_cons_zero, List.set_cons_succ, hv10, hv8]
                clear hv10 hv8
                generalize v 0 = ve0
                generalize v 1 = ve1
                generalize v 2 = ve2
                generalize v 3 = ve3
                generalize v 4 = ve4
                generalize v 5 = ve5
                generalize v 6 = ve6
                generalize v 7 = ve7
                clear v
                have HB16 := Aside0.mk (HW12.out.trans ((HB15.out.trans (hb16.mono HB15.out.size)).mono HW12.out.size))
                have hy15 := blk_below Y15.out hb16
                have y0 : w16.cell? ⟨w14.heap.size, 0, none⟩ = some (.int .i64 (0 : Int)) := (blk_cell hy15 0).trans rfl
                have y1 : w16.cell? ⟨w14.heap.size, 1, none⟩ = some (.slice At 0 ct) := (blk_cell hy15 1).trans rfl
                have y2 : w16.cell? ⟨g1, 0, none⟩ = some (.int .i64 (0 : Int)) := (blk_cell hbx1 0).trans rfl
                have y3 : w16.cell? ⟨g1, 1, none⟩ = some (.slice A1 0 c1) := (blk_cell hbx1 1).trans rfl
                clear hy15 hbx1 hg1 hl1 hF1 hb16
                go_wp2
                go_ret
                exact ⟨rfl, HB16.out⟩
              | some s =>
                rw [ho] at hkn ez
                have hdk : decide (p ∈ ls) = true := decide_eq_true (hkn.2 rfl)
                rw [hdk]
                have FZ := Aside0.mk (show term_At.f kz a.f0 a.f1 p = some (s.f0, s.f1, true) from ez)
                obtain ⟨zz, hzz, _⟩ := puts_law (u := b) ho
                have HPN := Aside0.mk hzz
                clear hkn ez ho hdk hlt hk hzz
                go_wp2_with (go_at_call 27; refine (term_At.calls kz a.f0 (fun _ => True) X0 q0 a.f1 Ap cp p (s.f0) (s.f1) true wr (Kd.V_mk hq0 (Kd.F_mono (F_old k30_heap (Kd.C_below HCA12.out HB13.out) (Below.refl _ _)) (fun _ _ => trivial))) (hbP.out _ (HW12.out.trans (HB13.out.mono HW12.out.size))) hcpz.out FZ.out).mono ?_; rintro e w14 ⟨v1, rfl, hV, hb14⟩; obtain ⟨At, ct, hv1, hlt, hFt⟩ := hV; subst hv1; have HB14 := Aside0.mk hb14; clear hlt hFt hb14)
                have c14 := below_alloc HB14.out (Obj.cells #[.int .i64 s.f0, .slice At s.f1.length ct] 30)
                have Y14 := heap_alloc_new w14 (Obj.cells #[.int .i64 s.f0, .slice At s.f1.length ct] 30)
                obtain ⟨w15, hw15⟩ : ∃ w15, w15 = w14.alloc (Obj.cells #[.int .i64 s.f0, .slice At s.f1.length ct] 30) := ⟨_, rfl⟩
                try rw [← hw15] at c14 Y14 ⊢
                have HB15 := Aside0.mk (HB13.out.trans (c14.mono HB13.out.size))
                have YX := Aside0.mk (blk_below GX.out.2 HB15.out)
                have YB := Aside0.mk (blk_below GX.out.1 HB15.out)
                have Y15 := Aside0.mk Y14
                clear hw15 c14 x0 x1 Y14
                refine TermPlaces_r27 (ga := w3.heap.size) (gu := w.heap.size + 1) (r := zz) (ut := b) (b := true) (Aq := Ap) (lq := p.length) (cq := cp) (by kernel_rfl) rfl rfl YX.out rfl YB.out ?_ ?_ ?_
                · intro w1 hb1
                  have hbw1 : Below w.heap.size w w1 := HW12.out.trans ((HB15.out.trans (hb1.mono HB15.out.size)).mono HW12.out.size)
                  refine (soriteslaw06_Of.calls kO2 b.f0 A' c' b.f1 b.f0 b.f1 w1 (hbB.out _ hbw1) hc' FO2.out).mono ?_
                  rintro e w2 ⟨v1, rfl, hR, hb2⟩
                  obtain ⟨A2, c2, hv⟩ := Kd.R_slice hR
                  subst hv
                  exact ⟨A2, c2, rfl, (Kd.R_reads' hR).2.1, Kd.F_mono (Kd.R_F (Kd.R_bound hR)) (fun k hk => hk.2.1), hb2⟩
                · intro w1 A3 c3 ok hb1 hl3 hF3
                  have hbw1 : Below w.heap.size w w1 := HW12.out.trans ((HB15.out.trans (hb1.mono HB15.out.size)).mono HW12.out.size)
                  have hput := Put_any p a b (fun k => k < w15.heap.size ∨ ok k) X0 Ap A3 q0 cp c3 w1 FF.out.1 FF.out.2.1 (Kd.F_mono (F_old k30_heap (Kd.C_below HCA12.out HB15.out) hb1) (fun k hk => .inl hk)) hq0 (hbP.out _ hbw1) hcpz.out (Kd.F_mono hF3 (fun k hk => .inr hk)) hl3
                  rw [HPN.out] at hput
                  simp only [Option.getD_some, Option.isSome_some, Option.getD_none, Option.isSome_none] at hput
                  exact hput
                intro v w16 g1 A1 c1 hb16 hv10 hv8 hg1 hbx1 hl1 hF1
                simp only [layL, Nat.reduceAdd, List.setIfInBounds_toArray, List.set_cons_zero, List.set_cons_succ, hv10, hv8]
                clear hv10 hv8
                generalize v 0 = ve0
                generalize v 1 = ve1
                generalize v 2 = ve2
                generalize v 3 = ve3
                generalize v 4 = ve4
                generalize v 5 = ve5
                generalize v 6 = ve6
                generalize v 7 = ve7
                clear v
                have HB16 := Aside0.mk (HW12.out.trans ((HB15.out.trans (hb16.mono HB15.out.size)).mono HW12.out.size))
                have hy15 := blk_below Y15.out hb16
                have y0 : w16.cell? ⟨w14.heap.size, 0, none⟩ = some (.int .i64 s.f0) := (blk_cell hy15 0).trans rfl
                have y1 : w16.cell? ⟨w14.heap.size, 1, none⟩ = some (.slice At s.f1.length ct) := (blk_cell hy15 1).trans rfl
                have y2 : w16.cell? ⟨g1, 0, none⟩ = some (.int .i64 zz.f0) := (blk_cell hbx1 0).trans rfl
                have y3 : w16.cell? ⟨g1, 1, none⟩ = some (.slice A1 zz.f1.length c1) := (blk_cell hbx1 1).trans rfl
                clear hy15 hbx1 hg1 hl1 hF1 hb16
                go_wp2
                go_ret
                exact ⟨rfl, HB16.out⟩
end Go.Proofs.Ytpfddihcikiofaa.P
end
