/- The law KboStable holds of every input. Part 6 of 6: PxSoriteslaw07Of, GApply, GKtRegs, GKboStable, LawKboStable. -/
import Derived.Test.YtpfddihcikiofaaZKboStable2
import Derived.Test.YtpfddihcikiofaaZKboStable3
import Derived.Test.YtpfddihcikiofaaZKboStable5
import Derived.Test.YtpfddihcikiofaaRows
import Derived.WalkKit
import Derived.ProofKit
import Derived.OpenShut
import Derived.ShutString
import Derived.ChangeOld
import Derived.Below
import Derived.SizedLaws
import Derived.Test.YtpfddihcikiofaaZKboStable1
import Derived.Test.YtpfddihcikiofaaZKboStable4
section
namespace Go.Proofs.Ytpfddihcikiofaa.P
open Go.RowKit Go.Proofs.YtpfddihcikiofaaW.PrintWords Go.Proofs.YtpfddihcikiofaaW.PrintLast Go.Proofs.YtpfddihcikiofaaW.PrintMore
attribute [local go_sem] max2_int min2_int max_two min_two max_three min_three max_four min_four
set_option linter.unusedVariables false
set_option linter.unusedSimpArgs false
def soriteslaw07_Of.l0 : Nat → List (S112) → List (S114) → Int → Option ((List (S114)))
  | 0, _, _, _ => none
  | k + 1, x0, x3, x4 => if x4 < (x0.length : Int) then (if 0 ≤ x4 then ((soriteslaw06_Of.f k ((rd_T112 x0 x4).f1.f0) ((rd_T112 x0 x4).f1.f1)).bind fun bt356 => (if x3.length < 3518437208883 then (soriteslaw07_Of.l0 k x0 (x3 ++ [(⟨(rd_T112 x0 x4).f0, (⟨bt356.1, bt356.2⟩ : S30)⟩ : S114)]) (wrap64 (x4 + 1))) else (none))) else (none)) else (some x3)
def soriteslaw07_Of.f (k : Nat) (l0 : List (S112)) : Option ((List (S114))) := soriteslaw07_Of.l0 k l0 ([] : List (S114)) 0
def soriteslaw07_Of.T5 : Bool × List (List Nat × List Nat) := (true, [([], []), ([], []), ([], []), ([1, 2], [1, 2]), ([3], [3]), ([4], [4]), ([], []), ([], []), ([6, 7], [6, 7]), ([8], [8]), ([9], [9]), ([10], [10]), ([5, 11], [5, 11]), ([12], [12]), ([0, 13, 11], [0, 13]), ([14, 14, 0, 1, 2, 3, 4, 5, 6, 7, 8, 9, 10, 11, 12, 13, 14], [0, 14])])
def soriteslaw07_Of.B5 : List Nat := [0, 0, 0, 6, 14, 30, 0, 0, 192, 448, 960, 1984, 4094, 8190, 16383, 32767]
theorem soriteslaw07_Of.tab5 : rtab .any (opsOf Try.f52 5) = soriteslaw07_Of.T5 := by kernel_rfl
theorem soriteslaw07_Of.bits5 : waitsOk soriteslaw07_Of.T5.2 soriteslaw07_Of.B5 = true := by kernel_rfl
set_option maxHeartbeats 8000000 in
set_option maxRecDepth 100000 in
theorem soriteslaw07_Of.calls (k : Nat) (A0 : Option Addr) (c0 : Nat) (l0 : List (S112)) (r : List (S114)) (w : World) (hr0 : Kd.C k112 w A0 l0.length l0) (hc0 : l0.length ≤ c0) (h : soriteslaw07_Of.f k l0 = some r) :
    Calls Try.prog 52 #[.slice A0 l0.length c0] w fun e w' => ∃ v0_ : Value, e = .returned (v0_) ∧ Kd.R k114 114 w' w.heap.size (fun _ => True) v0_ r ∧ Below w.heap.size w w' := by
  have hu24 := Try.underlying24
  have hu114 := Try.underlying114
  have HR0 := Aside0.mk hr0
  have HC0 := Aside0.mk hc0
  clear hr0 hc0
  have HB := Aside0.mk (Below.refl w.heap.size w)
  have H : (soriteslaw07_Of.l0 k l0 ([] : List (S114)) 0) = some r := h
  clear h
  have H' := Aside0.mk H
  clear H
  go_enter Try.func52, Try.ntmps52
  go_wp2
  go_loopg [3, 4] k (fun kq v3 v4 w' => ∃ (x3_1 : List (S114)) (x4_1 : Int), v4 = .int .i64 x4_1 ∧ Aside0 (soriteslaw07_Of.l0 kq l0 x3_1 x4_1 = some r) ∧ Aside0 (kq ≤ k) ∧ Aside0 (Kd.R k114 114 w' w.heap.size (fun _ => True) v3 x3_1) ∧ Aside0 (Below w.heap.size w w'))
  case atStart => exact ⟨(([] : List (S114))), (0), (by first | rfl | (simp; done) | (simp [*]; done)), H', ⟨Nat.le_refl _⟩, ⟨by first | exact Kd.R_nil _ _ _ _ _ | exact Kd.N_nil _ _ _ _ _ | exact Kd.V_nil _ _ _ _ _ | exact Kd.Q_nil _ _ _ _ _ | exact Kd.S_nil _ _ _ _ _⟩, ⟨by repeat (first | (with_reducible first | exact HB.out | apply below_alloc | apply pw_below_drewN | apply below_drew1) | exact HB.out)⟩⟩
  case round =>
    clear H'
    obtain ⟨x3_1, x4_1, rfl, HA, HK1, HO_3, HB⟩ := hrel
    cases gk with
    | zero => exact absurd HA.out (by simp [soriteslaw07_Of.l0])
    | succ k1 =>
      have H := HA.out
      clear HA
      simp only [soriteslaw07_Of.l0] at H
      by_cases c2 : x4_1 < (l0.length : Int)
      · rw [if_pos c2] at H
        have c2b0 : decide (x4_1 < (l0.length : Int)) = true := decide_eq_true c2
        clear c2
        by_cases c3 : 0 ≤ x4_1
        · rw [if_pos c3] at H
          have c3b0 : decide (0 ≤ x4_1) = true := decide_eq_true c3
          clear c3
          replace H := Option.bind_eq_some_iff.mp H
          obtain ⟨⟨t356, t357⟩, A40, H⟩ := H
          replace H : (if x3_1.length < 3518437208883 then (soriteslaw07_Of.l0 k1 l0 (x3_1 ++ [(⟨(rd_T112 l0 x4_1).f0, (⟨t356, t357⟩ : S30)⟩ : S114)]) (wrap64 (x4_1 + 1))) else (none)) = some r := H
          have A4 := Aside0.mk A40
          clear A40
          by_cases c5 : x3_1.length < 3518437208883
          · rw [if_pos c5] at H
            have LMc5 := Aside0.mk c5
            clear c5
            obtain ⟨y360, hy360⟩ : ∃ y_ : List (S114), y_ = (x3_1 ++ [(⟨(rd_T112 l0 x4_1).f0, (⟨t356, t357⟩ : S30)⟩ : S114)]) := ⟨_, rfl⟩
            replace H : (soriteslaw07_Of.l0 k1 l0 y360 (wrap64 (x4_1 + 1))) = some r := by first | (rw [hy360]; with_reducible exact H) | (have H2_ := (Option.bind_some _ _).symm.trans H; rw [hy360]; with_reducible exact H2_) | (have H2_ := (Option.bind_some _ _).symm.trans H; with_reducible exact H2_) | with_reducible exact H | (rw [hy360]; exact H) | exact H
            have Ny360 := Aside0.mk hy360
            clear hy360
            have H' := Aside0.mk H
            clear H
            try go_wp2
            have n0_ := Aside0.mk (Kd.R_drew HO_3.out)
            have n1_ := Aside0.mk (below_drew1 HB.out)
            clear HO_3
            clear HB
            have HO_3 := n0_
            have HB := n1_
            clear n0_ n1_
            have p354 : 0 ≤ (x4_1 : Int) := of_decide_eq_true (by first | (with_reducible assumption) | assumption)
            have q354 : x4_1 < (l0.length : Int) := of_decide_eq_true (by first | (with_reducible assumption) | assumption)
            obtain ⟨ad354, A354_2, c354_2, e354, hx354_0, hx354_1, hx354_2, hl354_2, hi354_2⟩ := at_T112 HR0.out x4_1 p354 q354
            have hw354_2 := hx354_2
            have hw354_1 := hx354_1
            have hw354_0 := hx354_0
            cases e354
            replace hx354_0 := (HB.out.cell (World.block_lt_of_cell? w _ hx354_0)).trans hx354_0
            replace hx354_1 := (HB.out.cell (World.block_lt_of_cell? w _ hx354_1)).trans hx354_1
            replace hx354_2 := (HB.out.cell (World.block_lt_of_cell? w _ hx354_2)).trans hx354_2
            have HR354_2 := Aside0.mk hi354_2
            have HC354_2 := Aside0.mk hl354_2
            clear hi354_2 hl354_2
            replace p354 := eq_true p354
            replace q354 := eq_true q354
            have p355 : 0 ≤ (x4_1 : Int) := of_decide_eq_true (by first | (with_reducible assumption) | assumption)
            have q355 : x4_1 < (l0.length : Int) := of_decide_eq_true (by first | (with_reducible assumption) | assumption)
            obtain ⟨ad355, A355_2, c355_2, e355, hx355_0, hx355_1, hx355_2, hl355_2, hi355_2⟩ := at_T112 HR0.out x4_1 p355 q355
            have hw355_2 := hx355_2
            have hw355_1 := hx355_1
            have hw355_0 := hx355_0
            obtain rfl : ad354 = ad355 := (by injection e355)
            replace hx355_0 := (HB.out.cell (World.block_lt_of_cell? w _ hx355_0)).trans hx355_0
            replace hx355_1 := (HB.out.cell (World.block_lt_of_cell? w _ hx355_1)).trans hx355_1
            replace hx355_2 := (HB.out.cell (World.block_lt_of_cell? w _ hx355_2)).trans hx355_2
            have HR355_2 := Aside0.mk hi355_2
            have HC355_2 := Aside0.mk hl355_2
            clear hi355_2 hl355_2
            replace p355 := eq_true p355
            replace q355 := eq_true q355
            have ea_ := Option.some.inj (hx354_2.symm.trans hx355_2)
            injection ea_ with ea_ en_ ec_
            subst ea_
            subst ec_
            clear en_
            refine start_ (n := 16) (S := fun w' => w'.cell? (ad354.add ((x4_1).toNat * 3)) = some (.int .i64 ((rd_T112 l0 x4_1).f0)) ∧ w'.cell? ⟨(ad354.add ((x4_1).toNat * 3)).block, (ad354.add ((x4_1).toNat * 3)).off + 1, none⟩ = some (.int .i64 ((rd_T112 l0 x4_1).f1.f0)) ∧ w'.cell? ⟨(ad354.add ((x4_1).toNat * 3)).block, (ad354.add ((x4_1).toNat * 3)).off + 2, none⟩ = some (.slice A354_2 ((rd_T112 l0 x4_1).f1.f1).length c354_2) ∧ w'.cell? (ad354.add ((x4_1).toNat * 3)) = some (.int .i64 ((rd_T112 l0 x4_1).f0)) ∧ w'.cell? ⟨(ad354.add ((x4_1).toNat * 3)).block, (ad354.add ((x4_1).toNat * 3)).off + 1, none⟩ = some (.int .i64 ((rd_T112 l0 x4_1).f1.f0)) ∧ w'.cell? ⟨(ad354.add ((x4_1).toNat * 3)).block, (ad354.add ((x4_1).toNat * 3)).off + 2, none⟩ = some (.slice A354_2 ((rd_T112 l0 x4_1).f1.f1).length c354_2)) (ds := []) #[false, false, false, false, false, false, false, false, false, false, false, false, false, false, false, false] (by kernel_rfl) rfl rfl ⟨((HB.out.cell (World.block_lt_of_cell? w _ hw354_0)).trans hw354_0), ((HB.out.cell (World.block_lt_of_cell? w _ hw354_1)).trans hw354_1), ((HB.out.cell (World.block_lt_of_cell? w _ hw354_2)).trans hw354_2), ((HB.out.cell (World.block_lt_of_cell? w _ hw355_0)).trans hw355_0), ((HB.out.cell (World.block_lt_of_cell? w _ hw355_1)).trans hw355_1), ((HB.out.cell (World.block_lt_of_cell? w _ hw355_2)).trans hw355_2)⟩ (fun hHeld => ?_); refine with_tabW soriteslaw07_Of.tab5 soriteslaw07_Of.bits5 (fun HT_ HW_ => ?_)
            generalize wr.drew = w6 at HO_3 HB HR354_2 HR355_2 hx354_0 hx354_1 hx354_2 hx355_0 hx355_1 hx355_2 hHeld ⊢
            refine pure_ (i := 0) (N := some 11) (v := ?_) (a' := ?_) #[true, false, false, false, false, false, false, false, false, false, false, false, false, false, false, false] rfl rfl (any_of HT_.out (by kernel_rfl)) (fun _ _ _ h => h) (Or.inl ⟨by rfl, ?_⟩) ?_ ?_
            rotate_left
            · intro w'
              go_simp
              with_reducible rfl
            rotate_left
            · simp only [Act.put, List.setIfInBounds_toArray, List.set_cons_zero, List.set_cons_succ, i64_w, i32_w]
              rfl
            refine pure_ (i := 1) (N := some 12) (v := ?_) (a' := ?_) #[true, true, false, false, false, false, false, false, false, false, false, false, false, false, false, false] rfl rfl (any_of HT_.out (by kernel_rfl)) (fun _ _ _ h => h) (Or.inl ⟨by rfl, ?_⟩) ?_ ?_
            rotate_left
            · intro w'
              go_simp
              with_reducible rfl
            rotate_left
            · simp only [Act.put, List.setIfInBounds_toArray, List.set_cons_zero, List.set_cons_succ, i64_w, i32_w]
              rfl
            refine pure_ (i := 2) (N := some 13) (v := ?_) (a' := ?_) #[true, true, true, false, false, false, false, false, false, false, false, false, false, false, false, false] rfl rfl (any_of HT_.out (by kernel_rfl)) (fun _ _ _ h => h) (Or.inl ⟨by rfl, ?_⟩) ?_ ?_
            rotate_left
            · intro w'
              go_simp
              with_reducible rfl
            rotate_left
            · simp only [Act.put, List.setIfInBounds_toArray, List.set_cons_zero, List.set_cons_succ, i64_w, i32_w]
              rfl
            refine pure_ (i := 3) (N := some 14) (v := ?_) (a' := ?_) #[true, true, true, true, false, false, false, false, false, false, false, false, false, false, false, false] rfl rfl (any_of HT_.out (by kernel_rfl)) (fun _ _ _ h => h) (Or.inl ⟨by rfl, ?_⟩) ?_ ?_
            rotate_left
            · intro w'
              go_simp
              with_reducible rfl
            rotate_left
            · simp only [Act.put, List.setIfInBounds_toArray, List.set_cons_zero, List.set_cons_succ, i64_w, i32_w]
              rfl
            refine pure_ (i := 4) (N := some 15) (v := ?_) (a' := ?_) #[true, true, true, true, true, false, false, false, false, false, false, false, false, false, false, false] rfl rfl (any_of HT_.out (by kernel_rfl)) (fun _ _ _ h => h) (Or.inl ⟨by rfl, ?_⟩) ?_ ?_
            rotate_left
            · intro w'
              go_simp
              with_reducible rfl
            rotate_left
            · simp only [Act.put, List.setIfInBounds_toArray, List.set_cons_zero, List.set_cons_succ, i64_w, i32_w]
              rfl
            refine pure_ (i := 6) (N := some 17) (v := ?_) (a' := ?_) #[true, true, true, true, true, false, true, false, false, false, false, false, false, false, false, false] rfl rfl (any_of HT_.out (by kernel_rfl)) (fun _ _ _ h => h) (Or.inl ⟨by rfl, ?_⟩) ?_ ?_
            rotate_left
            · intro w'
              go_simp
              with_reducible rfl
            rotate_left
            · simp only [Act.put, List.setIfInBounds_toArray, List.set_cons_zero, List.set_cons_succ, i64_w, i32_w]
              rfl
            refine pure_ (i := 7) (N := some 18) (v := ?_) (a' := ?_) #[true, true, true, true, true, false, true, true, false, false, false, false, false, false, false, false] rfl rfl (any_of HT_.out (by kernel_rfl)) (fun _ _ _ h => h) (Or.inl ⟨by rfl, ?_⟩) ?_ ?_
            rotate_left
            · intro w'
              go_simp
              with_reducible rfl
            rotate_left
            · simp only [Act.put, List.setIfInBounds_toArray, List.set_cons_zero, List.set_cons_succ, i64_w, i32_w]
              rfl
            refine pure_ (i := 8) (N := some 19) (v := ?_) (a' := ?_) #[true, true, true, true, true, false, true, true, true, false, false, false, false, false, false, false] rfl rfl (any_of HT_.out (by kernel_rfl)) (fun _ _ _ h => h) (Or.inl ⟨by rfl, ?_⟩) ?_ ?_
            rotate_left
            · intro w'
              go_simp
              with_reducible rfl
            rotate_left
            · simp only [Act.put, List.setIfInBounds_toArray, List.set_cons_zero, List.set_cons_succ, i64_w, i32_w]
              rfl
            refine pure_ (i := 9) (N := some 20) (v := ?_) (a' := ?_) #[true, true, true, true, true, false, true, true, true, true, false, false, false, false, false, false] rfl rfl (any_of HT_.out (by kernel_rfl)) (fun _ _ _ h => h) (Or.inl ⟨by rfl, ?_⟩) ?_ ?_
            rotate_left
            · intro w'
              go_simp
              with_reducible rfl
            rotate_left
            · simp only [Act.put, List.setIfInBounds_toArray, List.set_cons_zero, List.set_cons_succ, i64_w, i32_w]
              rfl
            refine take_ (i := 5) (N := some 16) (v := ?_) (a' := ?_) #[true, true, true, true, true, true, true, true, true, true, false, false, false, false, false, false] rfl rfl (take_ofW HT_.out HW_.out (by kernel_rfl)) (fun _ _ _ h => h) (Or.inl ⟨by rfl, ?_⟩) hHeld ?_ ?_
            rotate_left
            · rintro w' ⟨s0, s1, s2, s3, s4, s5⟩
              go_simp
              with_reducible rfl
            rotate_left
            · simp only [Act.put, List.setIfInBounds_toArray, List.set_cons_zero, List.set_cons_succ, i64_w, i32_w]
              rfl
            refine take_ (i := 10) (N := some 21) (v := ?_) (a' := ?_) #[true, true, true, true, true, true, true, true, true, true, true, false, false, false, false, false] rfl rfl (take_ofW HT_.out HW_.out (by kernel_rfl)) (fun _ _ _ h => h) (Or.inl ⟨by rfl, ?_⟩) hHeld ?_ ?_
            rotate_left
            · rintro w' ⟨s0, s1, s2, s3, s4, s5⟩
              go_simp
              with_reducible rfl
            rotate_left
            · simp only [Act.put, List.setIfInBounds_toArray, List.set_cons_zero, List.set_cons_succ, i64_w, i32_w]
              rfl
            refine one_ (i := 11) (N := some 22) #[true, true, true, true, true, true, true, true, true, true, true, true, false, false, false, false] rfl rfl (one_of HT_.out (by kernel_rfl)) (by decide) (fun K hK => ?_)
            refine goes_ Try.func22 (by kernel_rfl) rfl #[.agg #[.int .i64 ((rd_T112 l0 x4_1).f1.f0), .slice A354_2 ((rd_T112 l0 x4_1).f1.f1).length c354_2]] (by rfl) rfl rfl (by (try simp only [List.map_toArray, List.map_cons, List.map_nil]); first | done | rfl | (simp only [List.length_drop, List.length_take]; rfl)) ?_
            with_reducible refine (soriteslaw06_Of.calls k1 ((rd_T112 l0 x4_1).f1.f0) _ _ ((rd_T112 l0 x4_1).f1.f1) t356 t357 _ ?side1 ?side2 A4.out).mono ?_
            (case side1 => repeat (first | exact (Kd.C_below HR355_2.out HB.out) | (with_reducible refine Kd.C_alloc ?_ _) | (with_reducible refine Kd.C_drewN ?_ _) | (with_reducible refine Kd.C_drew ?_)))
            (case side2 => exact HC355_2.out)
            rintro e w7 ⟨v358, rfl, ho0, hb⟩
            refine ⟨_, rfl, ?_⟩
            have n0_ := Aside0.mk (Kd.R_elder' (by (with_reducible repeat (first | apply Kd.R_alloc | apply Kd.R_drewN | apply Kd.R_drew)); exact HO_3.out) (Kd.R_base ho0) hb)
            have n1_ := Aside0.mk (Kd.R_lower ho0 (below_size (by repeat (first | (with_reducible first | exact HB.out | apply below_alloc | apply pw_below_drewN | apply below_drew1) | exact HB.out))))
            have n2_ := Aside0.mk (below_step (by repeat (first | (with_reducible first | exact HB.out | apply below_alloc | apply pw_below_drewN | apply below_drew1) | exact HB.out)) hb)
            clear HO_3
            clear HB
            have HO_3 := n0_
            have HO359 := n1_
            have HB := n2_
            clear n0_ n1_ n2_
            (try clear hb)
            (try clear hb2)
            (try clear hk)
            (try clear hi)
            (try clear ho0)
            obtain ⟨Ao8, co8, eo8⟩ := Kd.R_slice HO359.out
            (first | subst eo8 | (injection eo8 with f1_ f2_ f3_; have f4_ := f1_.symm; have f5_ := f3_.symm; clear f1_ f2_ f3_; subst f4_; subst f5_))
            refine hK.out _ _ ⟨((HB.out.cell (World.block_lt_of_cell? w _ hw354_0)).trans hw354_0), ((HB.out.cell (World.block_lt_of_cell? w _ hw354_1)).trans hw354_1), ((HB.out.cell (World.block_lt_of_cell? w _ hw354_2)).trans hw354_2), ((HB.out.cell (World.block_lt_of_cell? w _ hw355_0)).trans hw355_0), ((HB.out.cell (World.block_lt_of_cell? w _ hw355_1)).trans hw355_1), ((HB.out.cell (World.block_lt_of_cell? w _ hw355_2)).trans hw355_2)⟩ (fun hHeld => ?_)
            clear hK K
            refine norm_ (a' := ?_) ?_ ?_
            rotate_left
            · show Act.put _ (some 22) _ = _
              simp only [Act.put, List.setIfInBounds_toArray, List.set_cons_zero, List.set_cons_succ, i64_w, i32_w]
              rfl
            refine pure_ (i := 12) (N := some 23) (v := ?_) (a' := ?_) #[true, true, true, true, true, true, true, true, true, true, true, true, true, false, false, false] rfl rfl (any_of HT_.out (by kernel_rfl)) (fun _ _ _ h => h) (Or.inl ⟨by rfl, ?_⟩) ?_ ?_
            rotate_left
            · intro w'
              go_simp
              with_reducible rfl
            rotate_left
            · simp only [Act.put, List.setIfInBounds_toArray, List.set_cons_zero, List.set_cons_succ, i64_w, i32_w]
              rfl
            refine one_ (i := 13) (N := some 24) #[true, true, true, true, true, true, true, true, true, true, true, true, true, true, false, false] rfl rfl (one_of HT_.out (by kernel_rfl)) (by decide) (fun K hK => ?_)
            refine value_ (w1 := ?_) (v := ?_) (by rfl) rfl ?_ ?_
            rotate_left 2
            · go_simp
              constructor
              · rfl
              · rfl
            refine hK.out _ _ ⟨(World.cell?_alloc_lt _ _ _ (World.block_lt_of_cell? _ _ (((HB.out.cell (World.block_lt_of_cell? w _ hw354_0)).trans hw354_0)))).trans (((HB.out.cell (World.block_lt_of_cell? w _ hw354_0)).trans hw354_0)), (World.cell?_alloc_lt _ _ _ (World.block_lt_of_cell? _ _ (((HB.out.cell (World.block_lt_of_cell? w _ hw354_1)).trans hw354_1)))).trans (((HB.out.cell (World.block_lt_of_cell? w _ hw354_1)).trans hw354_1)), (World.cell?_alloc_lt _ _ _ (World.block_lt_of_cell? _ _ (((HB.out.cell (World.block_lt_of_cell? w _ hw354_2)).trans hw354_2)))).trans (((HB.out.cell (World.block_lt_of_cell? w _ hw354_2)).trans hw354_2)), (World.cell?_alloc_lt _ _ _ (World.block_lt_of_cell? _ _ (((HB.out.cell (World.block_lt_of_cell? w _ hw355_0)).trans hw355_0)))).trans (((HB.out.cell (World.block_lt_of_cell? w _ hw355_0)).trans hw355_0)), (World.cell?_alloc_lt _ _ _ (World.block_lt_of_cell? _ _ (((HB.out.cell (World.block_lt_of_cell? w _ hw355_1)).trans hw355_1)))).trans (((HB.out.cell (World.block_lt_of_cell? w _ hw355_1)).trans hw355_1)), (World.cell?_alloc_lt _ _ _ (World.block_lt_of_cell? _ _ (((HB.out.cell (World.block_lt_of_cell? w _ hw355_2)).trans hw355_2)))).trans (((HB.out.cell (World.block_lt_of_cell? w _ hw355_2)).trans hw355_2))⟩ (fun hHeld => ?_)
            clear hK K
            refine norm_ (a' := ?_) ?_ ?_
            rotate_left
            · show Act.put _ (some 24) _ = _
              simp only [Act.put, List.setIfInBounds_toArray, List.set_cons_zero, List.set_cons_succ, i64_w, i32_w]
              rfl
            refine one_ (i := 14) (N := some 25) #[true, true, true, true, true, true, true, true, true, true, true, true, true, true, true, false] rfl rfl (one_of HT_.out (by kernel_rfl)) (by decide) (fun K hK => ?_)
            refine Kd.R_append_step k114 (w0 := w) w.heap.size (by rfl) (.tmp 11) (.tmp 24) 62 114 (.agg #[(.int .i64 0), (.int .i64 0), (.slice none 0 0)]) 40 rfl Try.underlying62 info114 rfl (by decide) (by omega) u3 x3_1 (⟨(rd_T112 l0 x4_1).f0, (⟨t356, t357⟩ : S30)⟩ : S114) [.int .i64 ((rd_T112 l0 x4_1).f0), .int .i64 t356, .slice Ao8 t357.length co8] (fun _ => True) (fun k_ => ((fun _ => True)) k_ ∧ some k_ ≠ (u3 : Value).ownBlock) rfl rfl ?aP (fun _ hk => hk) ?aF ?aO ?aB ?aS ?aL ?_
            (case aP => exact k114_mkM _ _ _ (⟨(rd_T112 l0 x4_1).f0, (⟨t356, t357⟩ : S30)⟩ : S114) (Kd.R_mono (Kd.R_apart' (HO359.out) (Kd.R_typed HO_3.out) (by decide)) (fun k_ hk => ⟨trivial, hk.2⟩)))
            (case aB => exact (by repeat (first | (with_reducible first | exact HB.out | apply below_alloc | apply pw_below_drewN | apply below_drew1) | exact HB.out)))
            (case aF => exact (fun _ _ => trivial))
            (case aO => exact (by (with_reducible repeat (first | apply Kd.R_alloc | apply Kd.R_drewN | apply Kd.R_drew)); exact Kd.R_mono HO_3.out (fun _ hk => trivial)))
            (case aS => exact (below_size (by repeat (first | (with_reducible first | exact HB.out | apply below_alloc | apply pw_below_drewN | apply below_drew1) | exact HB.out))))
            (case aL => have := LMc5.out; omega)
            intro v361 w9 ho hb hg hat
            rw [← Ny360.out] at ho
            have n0_ := Aside0.mk (hb)
            have n1_ := Aside0.mk (ho)
            clear HB
            clear HO_3
            clear HO359
            have HB := n0_
            have HO362 := n1_
            clear n0_ n1_
            clear ho hb hg hat
            refine hK.out _ _ ⟨((HB.out.cell (World.block_lt_of_cell? w _ hw354_0)).trans hw354_0), ((HB.out.cell (World.block_lt_of_cell? w _ hw354_1)).trans hw354_1), ((HB.out.cell (World.block_lt_of_cell? w _ hw354_2)).trans hw354_2), ((HB.out.cell (World.block_lt_of_cell? w _ hw355_0)).trans hw355_0), ((HB.out.cell (World.block_lt_of_cell? w _ hw355_1)).trans hw355_1), ((HB.out.cell (World.block_lt_of_cell? w _ hw355_2)).trans hw355_2)⟩ (fun hHeld => ?_)
            clear hK K
            refine norm_ (a' := ?_) ?_ ?_
            rotate_left
            · show Act.put _ (some 25) _ = _
              simp only [Act.put, List.setIfInBounds_toArray, List.set_cons_zero, List.set_cons_succ, i64_w, i32_w]
              rfl
            refine pure_ (i := 15) (N := some 3) (v := ?_) (a' := ?_) #[true, true, true, true, true, true, true, true, true, true, true, true, true, true, true, true] rfl rfl (any_of HT_.out (by kernel_rfl)) (fun _ _ _ h => h) (Or.inl ⟨by rfl, ?_⟩) ?_ ?_
            rotate_left
            · intro w'
              go_simp
              with_reducible rfl
            rotate_left
            · simp only [Act.put, List.setIfInBounds_toArray, List.set_cons_zero, List.set_cons_succ, i64_w, i32_w]
              rfl
            refine done_ (done_of HT_.out (by kernel_rfl)) ?_
            try go_wp2
            go_roundg k1
            case measure => have := HK1.out; omega
            case rel => exact ⟨(y360), (wrap64 (x4_1 + 1)), (by first | rfl | (simp; done) | (simp [*]; done)), H', ⟨by have := HK1.out; omega⟩, ⟨by (with_reducible repeat (first | apply Kd.R_alloc | apply Kd.R_drewN | apply Kd.R_drew)); exact HO362.out⟩, ⟨by repeat (first | (with_reducible first | exact HB.out | apply below_alloc | apply pw_below_drewN | apply below_drew1) | exact HB.out)⟩⟩
          · rw [if_neg c5] at H
            exact absurd H (by simp)
        · rw [if_neg c3] at H
          exact absurd H (by simp)
      · rw [if_neg c2] at H
        have c2b0 : decide (x4_1 < (l0.length : Int)) = false := decide_eq_false c2
        clear c2
        obtain rfl := Option.some.inj H
        go_wp2
        go_ret
        exact ⟨_, by first | rfl | (simp [errW_none, errW_some] <;> rfl) | (simp [*, errW_none, errW_some] <;> rfl), by (with_reducible repeat (first | apply Kd.R_alloc | apply Kd.R_drewN | apply Kd.R_drew)); exact HO_3.out, by repeat (first | (with_reducible first | exact HB.out | apply below_alloc | apply pw_below_drewN | apply below_drew1) | exact HB.out)⟩
end Go.Proofs.Ytpfddihcikiofaa.P
end

section
namespace Go.Proofs.Ytpfddihcikiofaa.P
open Go.RowKit Go.Proofs.YtpfddihcikiofaaW.PrintWords Go.Proofs.YtpfddihcikiofaaW.PrintLast Go.Proofs.YtpfddihcikiofaaW.PrintMore
set_option linter.unusedVariables false
set_option linter.unusedSimpArgs false
set_option maxHeartbeats 4000000 in
set_option maxRecDepth 100000 in
theorem subst_Apply.calls (k : Nat) (A1 : Option Addr) (c1 : Nat) (l1 : List S114) (a0_0 : Int) (A0_1 : Option Addr) (c0_1 : Nat) (l0_1 : List (S30)) (r1 : Int) (r2 : List (S30)) (w : World) (hr1 : Kd.C k114 w A1 l1.length l1) (hc1 : l1.length ≤ c1) (hr : Kd.C k30 w A0_1 l0_1.length l0_1) (hc : l0_1.length ≤ c0_1) (h : subst_mappedA.f k a0_0 l0_1 l1 = some (r1, r2)) :
    Calls Try.prog 53 #[.slice A1 l1.length c1, .agg #[.int .i64 a0_0, .slice A0_1 l0_1.length c0_1]] w fun e w' => ∃ v1_ : Value, e = .returned (.agg #[.int .i64 r1, v1_]) ∧ Kd.R k30 30 w' w.heap.size (fun _ => True) v1_ r2 ∧ Below w.heap.size w w' := by
  obtain ⟨w1, hw1⟩ : ∃ w1, w1 = w.alloc (.cells #[.slice A1 l1.length c1] 62) := ⟨_, rfl⟩
  obtain ⟨w2, hw2⟩ : ∃ w2, w2 = w1.alloc (.cells #[.int .i64 a0_0, .slice A0_1 l0_1.length c0_1] 30) := ⟨_, rfl⟩
  obtain ⟨w3, hw3⟩ : ∃ w3, w3 = w2.alloc (.cells #[.int .i64 0, .slice none 0 0] 30) := ⟨_, rfl⟩
  have hs1 : w1.heap.size = w.heap.size + 1 := by rw [hw1, World.size_alloc]
  have hs2 : w2.heap.size = w.heap.size + 1 + 1 := by rw [hw2, World.size_alloc, hs1]
  have hs3 : w3.heap.size = w.heap.size + 1 + 1 + 1 := by rw [hw3, World.size_alloc, hs2]
  have b1 : Below w.heap.size w w1 := by rw [hw1]; exact below_alloc (Below.refl _ _) _
  have b2 : Below w.heap.size w w2 := by rw [hw2]; exact below_alloc b1 _
  have b3 : Below w.heap.size w w3 := by rw [hw3]; exact below_alloc b2 _
  have k2 : w3.heap[w.heap.size]? = some (.cells #[.slice A1 l1.length c1] 62 (0, 0)) := by rw [hw3, hw2]; refine blk_alloc (blk_alloc ?_ _) _; rw [hw1]; exact heap_alloc_new w _
  have k3 : w3.heap[w.heap.size + 1 + 1]? = some (.cells #[.int .i64 0, .slice none 0 0] 30 (0, 0)) := by rw [hw3, ← hs2]; exact heap_alloc_new w2 _
  have hcall := Aside0.mk (subst_mappedA.calls w.heap.size k a0_0 A0_1 c0_1 l0_1 A1 c1 l1 r1 r2 w3 (Kd.C_below hr b3) hc (Kd.C_below hr1 b3) hc1 k2 h)
  have K3 := Aside0.mk k3
  have B3 := Aside0.mk b3
  have S3 := Aside0.mk hs3
  have HW : Aside0 (w3 = ((w.alloc (.cells #[.slice A1 l1.length c1] 62)).alloc (.cells #[.int .i64 a0_0, .slice A0_1 l0_1.length c0_1] 30)).alloc (.cells #[.int .i64 0, .slice none 0 0] 30)) := ⟨by rw [hw3, hw2, hw1]⟩
  clear hw1 hw2 hw3 hs1 hs2 hs3 b1 b2 b3 k2 k3 hr hr1 h
  have z0 := blk_frozen K3.out 0
  go_enter Try.func53, Try.ntmps53
  go_wp2_with (go_at_call 81; rw [← HW.out]; refine hcall.out.mono ?_; rintro e w4 ⟨v1, rfl, hR, hb⟩; obtain ⟨A1, c1, hv⟩ := Kd.R_slice hR; subst hv; have hbx := blk_below K3.out hb; have y0 : w4.cell? ⟨w.heap.size + 1 + 1, 0, none⟩ = some (.int .i64 0) := (blk_cell hbx 0).trans rfl; have y1 : w4.cell? ⟨w.heap.size + 1 + 1, 1, none⟩ = some (.slice none 0 0) := (blk_cell hbx 1).trans rfl; have x0 := blk_frozen hbx 0; have x1 := blk_frozen hbx 1)
  refine bodyPost_ret (results_cell_row rfl _ _ (w.heap.size + 1 + 1) 30 #[.int .i64 r1, .slice A1 r2.length c1] (0, 0) _ rfl ((blk_set (blk_set hbx 0 _) 1 _).trans rfl) Try.underlying30 rfl (by kernel_rfl)) rfl ?_
  have hR2 := Kd.R_lower (Kd.R_newB hR (g := w.heap.size + 1 + 1) K3.out) (by have := S3.out; omega : w.heap.size ≤ w3.heap.size)
  refine ⟨_, rfl, Kd.R_mono (Kd.R_far (p := ⟨w.heap.size + 1 + 1, 1, none⟩) (Kd.R_far (p := ⟨w.heap.size + 1 + 1, 0, none⟩) (Kd.R_mono hR2 (fun k_ hk => (⟨hk, hk.2⟩ : _ ∧ k_ ≠ w.heap.size + 1 + 1))) (fun _ hk => hk.2) _) (fun _ hk => hk.2) _) (fun _ _ => trivial), below_set2 (B3.out.trans (hb.mono (by have := S3.out; omega))) (by omega)⟩
def okB (b : S112) : Prop := 0 ≤ b.f0 ∧ b.f0 ≤ 1000 ∧ ok b.f1 ∧ wt b.f1 ≤ 20
theorem rd112_at (l : List S112) (k : Nat) (h : k < l.length) : rd_T112 l (k : Int) = l[k] := by
  unfold rd_T112
  simp [List.getD, List.getElem?_eq_getElem h]
theorem rd114_at (l : List S114) (k : Nat) (h : k < l.length) : rd_T114 l (k : Int) = l[k] := by
  unfold rd_T114
  simp [List.getD, List.getElem?_eq_getElem h]
theorem Fine07_spec (l : List S112) (hl : l.length ≤ 9223372036854775807) : ∃ r, Ev (fun k => soriteslaw07_Fine.f k l) r ∧ (r = true → l.length ≤ 8 ∧ ∀ b ∈ l, okB b) := by
  have hloop : ∀ (m i : Nat), l.length - i = m → i ≤ l.length → (∀ b ∈ l.take i, okB b) → ∃ r, Ev (fun k => soriteslaw07_Fine.l0 k l (i : Int)) r ∧ (r = true → l.length ≤ 8 ∧ ∀ b ∈ l, okB b) := by
    intro m
    induction m with
    | zero =>
      intro i hi hle hq
      refine ⟨decide ((l.length : Int) ≤ 8), Ev.step (f := fun _ => some (decide ((l.length : Int) ≤ 8))) (fun k => ?_) (Ev.now _), fun h => ?_⟩
      · rw [soriteslaw07_Fine.l0, if_neg (by omega)]
      · rw [List.take_of_length_le (by omega)] at hq
        have := of_decide_eq_true h
        exact ⟨by omega, hq⟩
    | succ m ihm =>
      intro i hi hle hq
      have hlt : i < l.length := by omega
      have hw : wrap64 ((i : Int) + 1) = ((i + 1 : Nat) : Int) := by rw [w64 _ (by omega)]; omega
      obtain ⟨r1, he, _, _, hr⟩ := Small_spec 11 l[i].f1 20 10 (by omega) (by omega) (by omega) (by omega)
      by_cases h1 : l[i].f0 < 0
      · refine ⟨false, Ev.step (f := fun _ => some false) (fun k => ?_) (Ev.now _), fun h => by cases h⟩
        rw [soriteslaw07_Fine.l0, if_pos (by omega), if_pos (by omega), rd112_at l i hlt, if_pos h1]
      by_cases h2 : l[i].f0 > 1000
      · refine ⟨false, Ev.step (f := fun _ => some false) (fun k => ?_) (Ev.now _), fun h => by cases h⟩
        rw [soriteslaw07_Fine.l0, if_pos (by omega), if_pos (by omega), rd112_at l i hlt, if_neg h1, if_pos h2]
      by_cases h0 : r1 < 0
      · refine ⟨false, Ev.step (f := fun k => (soriteslaw06_Small.f k l[i].f1.f0 l[i].f1.f1 20 10).bind fun t => if t < 0 then some false else soriteslaw07_Fine.l0 k l ((i + 1 : Nat) : Int)) (fun k => ?_) (Ev.bind he ?_), fun h => by cases h⟩
        · rw [soriteslaw07_Fine.l0, if_pos (by omega), if_pos (by omega), rd112_at l i hlt, if_neg h1, if_neg h2, hw]
        · simp only [if_pos h0]
          exact Ev.now _
      · obtain ⟨r, he2, h3⟩ := ihm (i + 1) (by omega) (by omega) (fun t ht => by
          rw [List.take_succ_eq_append_getElem hlt] at ht
          rcases List.mem_append.1 ht with ht | ht
          · exact hq t ht
          · rw [List.mem_singleton] at ht
            have := hr (by omega)
            subst ht
            exact ⟨by omega, by omega, this.1, by omega⟩)
        refine ⟨r, Ev.step (f := fun k => (soriteslaw06_Small.f k l[i].f1.f0 l[i].f1.f1 20 10).bind fun t => if t < 0 then some false else soriteslaw07_Fine.l0 k l ((i + 1 : Nat) : Int)) (fun k => ?_) (Ev.bind he ?_), h3⟩
        · rw [soriteslaw07_Fine.l0, if_pos (by omega), if_pos (by omega), rd112_at l i hlt, if_neg h1, if_neg h2, hw]
        · simp only [if_neg h0]
          exact he2
  obtain ⟨r, he, h⟩ := hloop l.length 0 rfl (by omega) (fun t ht => by simp at ht)
  exact ⟨r, he, h⟩
def toB (b : S112) : S114 := ⟨b.f0, b.f1⟩
theorem Of07_spec (l : List S112) (hl : l.length ≤ 1000) (hok : ∀ b ∈ l, ok b.f1) : Ev (fun k => soriteslaw07_Of.f k l) (l.map toB) := by
  have hloop : ∀ (m i : Nat), l.length - i = m → i ≤ l.length → Ev (fun k => soriteslaw07_Of.l0 k l ((l.take i).map toB) (i : Int)) (l.map toB) := by
    intro m
    induction m with
    | zero =>
      intro i hi hle
      refine Ev.step (f := fun _ => some (l.map toB)) (fun k => ?_) (Ev.now _)
      rw [soriteslaw07_Of.l0, if_neg (by omega), List.take_of_length_le (by omega)]
    | succ m ihm =>
      intro i hi hle
      have hlt : i < l.length := by omega
      refine Ev.step (f := fun k => (soriteslaw06_Of.f k l[i].f1.f0 l[i].f1.f1).bind fun t => if ((l.take i).map toB).length < 3518437208883 then soriteslaw07_Of.l0 k l ((l.take i).map toB ++ [(⟨l[i].f0, (⟨t.1, t.2⟩ : S30)⟩ : S114)]) ((i + 1 : Nat) : Int) else none) (fun k => ?_) (Ev.bind (Of_spec l[i].f1 (hok _ (List.getElem_mem hlt))) ?_)
      · rw [soriteslaw07_Of.l0, if_pos (by omega), if_pos (by omega), rd112_at l i hlt, show wrap64 ((i : Int) + 1) = ((i + 1 : Nat) : Int) from by rw [w64 _ (by omega)]; omega]
      · simp only [List.length_map, List.length_take]
        simp only [if_pos (show min i l.length < 3518437208883 by omega)]
        have := ihm (i + 1) (by omega) (by omega)
        rw [List.take_succ_eq_append_getElem hlt, List.map_append] at this
        simp only [S30.eta]
        exact this
  exact hloop l.length 0 rfl (by omega)
def getB : List S114 → Int → Option S30
  | [], _ => none
  | b :: r, v => if b.f0 = v then some b.f1 else getB r v
theorem getB_mem : ∀ (l : List S114) (v : Int) (t : S30), getB l v = some t → ∃ b ∈ l, b.f1 = t
  | [], _, _, h => by cases h
  | b :: r, v, t, h => by
    rw [getB] at h
    split at h
    · injection h with h; exact ⟨b, by simp, h⟩
    · obtain ⟨b', h1, h2⟩ := getB_mem r v t h
      exact ⟨b', by simp [h1], h2⟩
def getR (o : Option S30) : Int × List S30 × Bool := match o with
  | some t => (t.f0, t.f1, true)
  | none => (0, [], false)
theorem Get_spec (l : List S114) (hl : l.length ≤ 1000) (v : Int) : Ev (fun k => subst_S_Get.f k l v) (getR (getB l v)) := by
  have hloop : ∀ (m i : Nat), l.length - i = m → i ≤ l.length → Ev (fun k => subst_S_Get.l0 k v l (l.length : Int) (i : Int)) (getR (getB (l.drop i) v)) := by
    intro m
    induction m with
    | zero =>
      intro i hi hle
      refine Ev.step (f := fun _ => some (0, [], false)) (fun k => ?_) ?_
      · rw [subst_S_Get.l0, if_neg (by omega)]
      · rw [List.drop_of_length_le (by omega)]; exact Ev.now _
    | succ m ihm =>
      intro i hi hle
      have hlt : i < l.length := by omega
      rw [List.drop_eq_getElem_cons hlt, getB]
      by_cases h : l[i].f0 = v
      · rw [if_pos h]
        refine Ev.step (f := fun _ => some (l[i].f1.f0, l[i].f1.f1, true)) (fun k => ?_) (Ev.now _)
        rw [subst_S_Get.l0, if_pos (by omega), if_pos (by omega), if_pos (by omega), rd114_at l i hlt, if_pos h]
      · rw [if_neg h]
        refine Ev.step (f := fun k => subst_S_Get.l0 k v l (l.length : Int) ((i + 1 : Nat) : Int)) (fun k => ?_) (ihm (i + 1) (by omega) (by omega))
        rw [subst_S_Get.l0, if_pos (by omega), if_pos (by omega), if_pos (by omega), rd114_at l i hlt, if_neg h, show wrap64 ((i : Int) + 1) = ((i + 1 : Nat) : Int) from by rw [w64 _ (by omega)]; omega]
  exact hloop l.length 0 rfl (by omega)
def appG (l : List S114) (f : Int) : S30 := match getB l (-1 - f) with
  | some t => cloneT t
  | none => ⟨f, []⟩
theorem Apply1_spec (l : List S114) (hl : l.length ≤ 1000) (hok : ∀ b ∈ l, ok b.f1) (f : Int) (hf : -1000000 ≤ f ∧ f < 0) : Ev (fun k => subst_S_Apply_1.f k (-1 - f) l) ((appG l f).f0, (appG l f).f1) := by
  refine Ev.bind (Get_spec l hl (-1 - f)) ?_
  unfold appG
  cases h : getB l (-1 - f) with
  | none =>
    show Ev (fun k => some (wrap64 (-1 - (-1 - f)), ([] : List S30))) (f, [])
    rw [w64 _ (by omega), show -1 - (-1 - f) = f by omega]
    exact Ev.now _
  | some t =>
    obtain ⟨b, hb, rfl⟩ := getB_mem l _ t h
    exact Ev.bind (Clone_spec b.f1 (hok b hb)) (Ev.now _)
theorem Apply_spec (s : List S114) (hs : s.length ≤ 1000) (hok : ∀ b ∈ s, ok b.f1) : ∀ t : S30, fit t → Ev (fun k => subst_mappedA.f k t.f0 t.f1 s) ((mapT (appG s) t).f0, (mapT (appG s) t).f1) := by
  refine S30.ind ?_
  intro f l ih hfit
  have hn := fit_num hfit
  have hn1 : -1000000 ≤ f ∧ f ≤ 1000000 := hn
  by_cases hf : f < 0
  · refine Ev.step (f := fun k => (subst_S_Apply_1.f k (-1 - f) s).bind fun t => some (t.1, t.2)) (fun k => ?_) ?_
    · rw [subst_mappedA.f, if_pos hf, w64 _ (by omega)]
    · simp only [mapT, hf, if_true]
      exact Ev.bind (Apply1_spec s hs hok f ⟨hn1.1, hf⟩) (Ev.now _)
  · obtain ⟨hll, hsub⟩ := fit_sub hf hfit
    simp only [mapT, hf, if_false]
    refine Ev.step (f := fun k => subst_mappedA.l0 k s l (l.length : Int) ((0 : Nat) : Int) f []) (fun k => by rw [subst_mappedA.f, if_neg hf]; rfl) ?_
    have key : ∀ n i, l.length - i = n → i ≤ l.length → Ev (fun k => subst_mappedA.l0 k s l (l.length : Int) (i : Int) f ((l.take i).map (mapT (appG s)))) (f, mapTs (appG s) l) := by
      intro n
      induction n with
      | zero =>
        intro i hi hle
        refine Ev.step (f := fun _ => some (f, l.map (mapT (appG s)))) (fun k => by rw [subst_mappedA.l0, if_neg (by omega), List.take_of_length_le (by omega)]) ?_
        rw [mapTs_eq]; exact Ev.now _
      | succ n ihn =>
        intro i hi hle
        have hlt : i < l.length := by omega
        have hmem := List.getElem_mem hlt
        refine Ev.step (f := fun k => (subst_mappedA.f k l[i].f0 l[i].f1 s).bind fun t => if ((l.take i).map (mapT (appG s))).length < 4398046511104 then subst_mappedA.l0 k s l (l.length : Int) ((i + 1 : Nat) : Int) f ((l.take i).map (mapT (appG s)) ++ [(⟨t.1, t.2⟩ : S30)]) else none) (fun k => ?_) (Ev.bind (ih l[i] hmem (hsub _ hmem)) ?_)
        · rw [subst_mappedA.l0, if_pos (by omega), if_pos (by omega), if_pos (by omega), rdC_at l i hlt, wsucc i l.length hlt (by omega)]
        · simp only [List.length_map, List.length_take]
          simp only [if_pos (show min i l.length < 4398046511104 by omega)]
          have := ihn (i + 1) (by omega) (by omega)
          rw [List.take_succ_eq_append_getElem hlt, List.map_append] at this
          simp only [S30.eta]
          exact this
    have := key l.length 0 rfl (by omega)
    simpa using this
theorem map_fit (g : Int → S30) (m : Nat) (hg : ∀ f, f < 0 → -1000 ≤ f → (nodes (g f)).length ≤ m ∧ SmallN (g f)) : ∀ t : S30, (∀ x ∈ nodes t, -1000 ≤ x.f0 ∧ x.f0 ≤ 1000) → (nodes t).length * (m + 1) ≤ 1000000 → fit (mapT g t) := by
  have key : ∀ t : S30, (∀ x ∈ nodes t, -1000 ≤ x.f0 ∧ x.f0 ≤ 1000) → (nodes (mapT g t)).length ≤ (nodes t).length * (m + 1) ∧ SmallN (mapT g t) := by
    refine S30.ind ?_
    intro f l ih hx
    have h0 := hx ⟨f, l⟩ (by simp [nodes])
    have h0' : -1000 ≤ f ∧ f ≤ 1000 := h0
    by_cases hf : f < 0
    · have hn : (nodes ⟨f, l⟩).length = 1 := by simp [nodes, hf]
      simp only [mapT, hf, if_true]
      obtain ⟨h1, h2⟩ := hg f hf h0'.1
      rw [hn]
      exact ⟨by omega, h2⟩
    · have hn : ∀ m : List S30, nodes ⟨f, m⟩ = ⟨f, m⟩ :: nodess m := fun m => by simp [nodes, hf]
      simp only [mapT, hf, if_false]
      have key : ∀ l : List S30, (∀ x ∈ l, (nodes (mapT g x)).length ≤ (nodes x).length * (m + 1) ∧ SmallN (mapT g x)) → (nodess (mapTs g l)).length ≤ (nodess l).length * (m + 1) ∧ ∀ y ∈ nodess (mapTs g l), -1000000 ≤ y.f0 ∧ y.f0 ≤ 1000000 := by
        intro l
        induction l with
        | nil => intro _; rw [mapTs, nodess]; exact ⟨Nat.zero_le _, fun y hy => by cases hy⟩
        | cons x l ihl =>
          intro h
          obtain ⟨h1, h2⟩ := h x (by simp)
          obtain ⟨h3, h4⟩ := ihl (fun x hx => h x (by simp [hx]))
          rw [mapTs, nodess, nodess, List.length_append, List.length_append, Nat.add_mul]
          refine ⟨by omega, fun y hy => ?_⟩
          rcases List.mem_append.1 hy with hy | hy
          · exact h2 y hy
          · exact h4 y hy
      obtain ⟨h1, h2⟩ := key l (fun x hxl => ih x hxl (fun z hz => hx z (by rw [hn]; exact List.mem_cons_of_mem _ (nodess_mem hxl hz))))
      have hl1 : (nodes ⟨f, mapTs (g) l⟩).length = (nodess (mapTs (g) l)).length + 1 := by rw [hn, List.length_cons]
      have hl2 : (nodes ⟨f, l⟩).length = (nodess l).length + 1 := by rw [hn, List.length_cons]
      rw [hl1, hl2, Nat.add_mul]
      refine ⟨by omega, fun y hy => ?_⟩
      rw [hn] at hy
      rcases List.mem_cons.1 hy with rfl | hy
      · show -1000000 ≤ f ∧ f ≤ 1000000
        omega
      · exact h2 y hy
  intro t hx hl
  obtain ⟨h1, h2⟩ := key t hx
  exact ⟨by omega, h2⟩
theorem nums_ok : ∀ t : S30, ok t → ∀ x ∈ nodes t, -1000 ≤ x.f0 ∧ x.f0 ≤ 1000 := by
  refine S30.ind ?_
  intro f l ih h
  obtain ⟨h1, h2, h3, h4⟩ := h
  have hl : ∀ y ∈ nodess l, -1000 ≤ y.f0 ∧ y.f0 ≤ 1000 := by
    have := oks_mem h4
    clear h1 h2 h3 h4
    induction l with
    | nil => intro y hy; cases hy
    | cons x l ihl =>
      intro y hy
      rw [nodess, List.mem_append] at hy
      rcases hy with hy | hy
      · exact ih x (by simp) (this x (by simp)) y hy
      · exact ihl (fun x hx => ih x (by simp [hx])) (fun x hx => this x (by simp [hx])) y hy
  intro y hy
  rw [nodes] at hy
  rcases List.mem_cons.1 hy with rfl | hy
  · exact ⟨by show -1000 ≤ f; omega, by show f ≤ 1000; omega⟩
  · split at hy
    · cases hy
    · exact hl y hy
theorem cmp_clone' (t : S30) : cmpT t (cloneT t) = 0 := eqv_symm (cmp_clone t)
end Go.Proofs.Ytpfddihcikiofaa.P
end

section
namespace Go.Proofs.Ytpfddihcikiofaa.P
open Go.RowKit Go.Proofs.YtpfddihcikiofaaW.PrintWords Go.Proofs.YtpfddihcikiofaaW.PrintLast Go.Proofs.YtpfddihcikiofaaW.PrintMore
set_option linter.unusedVariables false
set_option linter.unusedSimpArgs false
set_option maxHeartbeats 4000000 in
set_option maxRecDepth 100000 in
theorem KboStable_r14 {id : Nat} {a : Act} {w : World} {Q : Exit → Act → World → Prop} {rf sf k : Int} {ga gb gz gv m cu : Nat} {xf xl yf yl zf zl vf vl : Value} {Au : Option Addr} {rs ss : List S30}
    (hr : regionOk #[{ dst := some 79, op := Op.move (Operand.tmp 15), type := 62, pos := "law.go:73", after := #[], guard := none }, { dst := some 80, op := Op.load 30 (Operand.tmp 11), type := 30, pos := "law.go:73", after := #[], guard := none }, { dst := some 81, op := Op.call { callee := Callee.value (Operand.func 53), args := #[Operand.tmp 79, Operand.tmp 80], argTypes := #[62, 30] }, type := 30, pos := "law.go:73", after := #[{ on := 0, ground := Ground.data }, { on := 1, ground := Ground.data }], guard := none }, { dst := some 82, op := Op.move (Operand.tmp 15), type := 62, pos := "law.go:73", after := #[], guard := none }, { dst := some 83, op := Op.load 30 (Operand.tmp 12), type := 30, pos := "law.go:73", after := #[], guard := none }, { dst := some 84, op := Op.call { callee := Callee.value (Operand.func 53), args := #[Operand.tmp 82, Operand.tmp 83], argTypes := #[62, 30] }, type := 30, pos := "law.go:73", after := #[{ on := 3, ground := Ground.data }, { on := 4, ground := Ground.data }, { on := 2, ground := Ground.chain }], guard := none }, { dst := some 85, op := Op.call { callee := Callee.value (Operand.func 43), args := #[Operand.tmp 81, Operand.tmp 84], argTypes := #[30, 30] }, type := 3, pos := "law.go:73", after := #[{ on := 2, ground := Ground.data }, { on := 5, ground := Ground.data }, { on := 5, ground := Ground.chain }], guard := none }, { dst := some 86, op := Op.move (Operand.tmp 14), type := 3, pos := "law.go:73", after := #[], guard := none }, { dst := some 87, op := Op.binOp BinOp.eql 3 (Operand.tmp 85) (Operand.tmp 86) 3, type := 4, pos := "law.go:73", after := #[{ on := 6, ground := Ground.data }, { on := 7, ground := Ground.data }], guard := none }, { dst := some 88, op := Op.move (Operand.tmp 87), type := 4, pos := "law.go:73", after := #[{ on := 8, ground := Ground.data }, { on := 6, ground := Ground.chain }], guard := none }, { dst := some 89, op := Op.load 30 (Operand.tmp 18), type := 30, pos := "law.go:73", after := #[{ on := 9, ground := Ground.guard }], guard := some (9, true) }, { dst := some 90, op := Op.load 30 (Operand.tmp 20), type := 30, pos := "law.go:73", after := #[{ on := 9, ground := Ground.guard }], guard := some (9, true) }, { dst := some 91, op := Op.call { callee := Callee.value (Operand.func 43), args := #[Operand.tmp 89, Operand.tmp 90], argTypes := #[30, 30] }, type := 3, pos := "law.go:73", after := #[{ on := 10, ground := Ground.data }, { on := 11, ground := Ground.data }, { on := 9, ground := Ground.chain }, { on := 9, ground := Ground.guard }], guard := some (9, true) }, { dst := some 92, op := Op.move (Operand.tmp 14), type := 3, pos := "law.go:73", after := #[{ on := 9, ground := Ground.guard }], guard := some (9, true) }, { dst := some 93, op := Op.binOp BinOp.eql 3 (Operand.tmp 91) (Operand.tmp 92) 3, type := 4, pos := "law.go:73", after := #[{ on := 12, ground := Ground.data }, { on := 13, ground := Ground.data }, { on := 9, ground := Ground.guard }], guard := some (9, true) }, { dst := some 94, op := Op.pick (Operand.tmp 88) (Operand.tmp 93) (Operand.const (Value.bool false)), type := 4, pos := "law.go:73", after := #[{ on := 9, ground := Ground.data }, { on := 14, ground := Ground.data }], guard := none }, { dst := some 10, op := Op.assign (Operand.tmp 94), type := 4, pos := "law.go:73", after := #[{ on := 15, ground := Ground.data }, { on := 12, ground := Ground.chain }, { on := 0, ground := Ground.phase }, { on := 1, ground := Ground.phase }, { on := 2, ground := Ground.phase }, { on := 3, ground := Ground.phase }, { on := 4, ground := Ground.phase }, { on := 5, ground := Ground.phase }, { on := 6, ground := Ground.phase }, { on := 7, ground := Ground.phase }, { on := 8, ground := Ground.phase }, { on := 9, ground := Ground.phase }, { on := 10, ground := Ground.phase }, { on := 11, ground := Ground.phase }, { on := 12, ground := Ground.phase }, { on := 13, ground := Ground.phase }, { on := 14, ground := Ground.phase }, { on := 15, ground := Ground.phase }], guard := none }] a.tmps.size = true)
    (hT15 : a.tmps.getD 15 undef = .slice Au m cu)
    (hT14 : a.tmps.getD 14 undef = .int .i64 k)
    (hT11 : a.tmps.getD 11 undef = .pointer (some ⟨ga, 0, none⟩)) (hX11 : w.heap[ga]? = some (.cells #[xf, xl] 30 (0, 0)))
    (hT12 : a.tmps.getD 12 undef = .pointer (some ⟨gb, 0, none⟩)) (hX12 : w.heap[gb]? = some (.cells #[yf, yl] 30 (0, 0)))
    (hT18 : a.tmps.getD 18 undef = .pointer (some ⟨gz, 0, none⟩)) (hX18 : w.heap[gz]? = some (.cells #[zf, zl] 30 (0, 0)))
    (hT20 : a.tmps.getD 20 undef = .pointer (some ⟨gv, 0, none⟩)) (hX20 : w.heap[gv]? = some (.cells #[vf, vl] 30 (0, 0)))
    (hF2 : ∀ w1, Below w.heap.size w w1 → Calls Try.prog 53 #[.slice Au m cu, .agg #[xf, xl]] w1 fun e w2 => ∃ u, e = .returned u ∧ TermTold k30 rf rs u w2 ∧ Below w1.heap.size w1 w2)
    (hF5 : ∀ w1, Below w.heap.size w w1 → Calls Try.prog 53 #[.slice Au m cu, .agg #[yf, yl]] w1 fun e w2 => ∃ u, e = .returned u ∧ TermTold k30 sf ss u w2 ∧ Below w1.heap.size w1 w2)
    (hF12 : ∀ w1, Below w.heap.size w w1 → Calls Try.prog 43 #[.agg #[zf, zl], .agg #[vf, vl]] w1 fun e w2 => e = .returned (.int .i64 k) ∧ Below w1.heap.size w1 w2)
    (hG : ∀ (w1 : World) (A B : Option Addr) (c d : Nat), Below w.heap.size w w1 → rs.length ≤ c → k30.C w1 A rs.length rs → ss.length ≤ d → k30.C w1 B ss.length ss → Calls Try.prog 43 #[.agg #[.int .i64 rf, .slice A rs.length c], .agg #[.int .i64 sf, .slice B ss.length d]] w1 fun e w2 => e = .returned (.int .i64 k) ∧ Below w1.heap.size w1 w2)
    (hK : ∀ v w', Below w.heap.size w w' → v 16 = .bool true → Q .normal { tmps := layL [some 79, some 80, some 81, some 82, some 83, some 84, some 85, some 86, some 87, some 88, some 89, some 90, some 91, some 92, some 93, some 94, some 10] 0 v a.tmps, defers := a.defers } w') :
    (Code.region id #[{ dst := some 79, op := Op.move (Operand.tmp 15), type := 62, pos := "law.go:73", after := #[], guard := none }, { dst := some 80, op := Op.load 30 (Operand.tmp 11), type := 30, pos := "law.go:73", after := #[], guard := none }, { dst := some 81, op := Op.call { callee := Callee.value (Operand.func 53), args := #[Operand.tmp 79, Operand.tmp 80], argTypes := #[62, 30] }, type := 30, pos := "law.go:73", after := #[{ on := 0, ground := Ground.data }, { on := 1, ground := Ground.data }], guard := none }, { dst := some 82, op := Op.move (Operand.tmp 15), type := 62, pos := "law.go:73", after := #[], guard := none }, { dst := some 83, op := Op.load 30 (Operand.tmp 12), type := 30, pos := "law.go:73", after := #[], guard := none }, { dst := some 84, op := Op.call { callee := Callee.value (Operand.func 53), args := #[Operand.tmp 82, Operand.tmp 83], argTypes := #[62, 30] }, type := 30, pos := "law.go:73", after := #[{ on := 3, ground := Ground.data }, { on := 4, ground := Ground.data }, { on := 2, ground := Ground.chain }], guard := none }, { dst := some 85, op := Op.call { callee := Callee.value (Operand.func 43), args := #[Operand.tmp 81, Operand.tmp 84], argTypes := #[30, 30] }, type := 3, pos := "law.go:73", after := #[{ on := 2, ground := Ground.data }, { on := 5, ground := Ground.data }, { on := 5, ground := Ground.chain }], guard := none }, { dst := some 86, op := Op.move (Operand.tmp 14), type := 3, pos := "law.go:73", after := #[], guard := none }, { dst := some 87, op := Op.binOp BinOp.eql 3 (Operand.tmp 85) (Operand.tmp 86) 3, type := 4, pos := "law.go:73", after := #[{ on := 6, ground := Ground.data }, { on := 7, ground := Ground.data }], guard := none }, { dst := some 88, op := Op.move (Operand.tmp 87), type := 4, pos := "law.go:73", after := #[{ on := 8, ground := Ground.data }, { on := 6, ground := Ground.chain }], guard := none }, { dst := some 89, op := Op.load 30 (Operand.tmp 18), type := 30, pos := "law.go:73", after := #[{ on := 9, ground := Ground.guard }], guard := some (9, true) }, { dst := some 90, op := Op.load 30 (Operand.tmp 20), type := 30, pos := "law.go:73", after := #[{ on := 9, ground := Ground.guard }], guard := some (9, true) }, { dst := some 91, op := Op.call { callee := Callee.value (Operand.func 43), args := #[Operand.tmp 89, Operand.tmp 90], argTypes := #[30, 30] }, type := 3, pos := "law.go:73", after := #[{ on := 10, ground := Ground.data }, { on := 11, ground := Ground.data }, { on := 9, ground := Ground.chain }, { on := 9, ground := Ground.guard }], guard := some (9, true) }, { dst := some 92, op := Op.move (Operand.tmp 14), type := 3, pos := "law.go:73", after := #[{ on := 9, ground := Ground.guard }], guard := some (9, true) }, { dst := some 93, op := Op.binOp BinOp.eql 3 (Operand.tmp 91) (Operand.tmp 92) 3, type := 4, pos := "law.go:73", after := #[{ on := 12, ground := Ground.data }, { on := 13, ground := Ground.data }, { on := 9, ground := Ground.guard }], guard := some (9, true) }, { dst := some 94, op := Op.pick (Operand.tmp 88) (Operand.tmp 93) (Operand.const (Value.bool false)), type := 4, pos := "law.go:73", after := #[{ on := 9, ground := Ground.data }, { on := 14, ground := Ground.data }], guard := none }, { dst := some 10, op := Op.assign (Operand.tmp 94), type := 4, pos := "law.go:73", after := #[{ on := 15, ground := Ground.data }, { on := 12, ground := Ground.chain }, { on := 0, ground := Ground.phase }, { on := 1, ground := Ground.phase }, { on := 2, ground := Ground.phase }, { on := 3, ground := Ground.phase }, { on := 4, ground := Ground.phase }, { on := 5, ground := Ground.phase }, { on := 6, ground := Ground.phase }, { on := 7, ground := Ground.phase }, { on := 8, ground := Ground.phase }, { on := 9, ground := Ground.phase }, { on := 10, ground := Ground.phase }, { on := 11, ground := Ground.phase }, { on := 12, ground := Ground.phase }, { on := 13, ground := Ground.phase }, { on := 14, ground := Ground.phase }, { on := 15, ground := Ground.phase }], guard := none }] true).wp Try.prog Q a w := by
  have hmx : Try.prog.follows .mixedOrders = true := by kernel_rfl
  refine region_detR 17 hmx hr (by kernel_rfl) ?_
  refine DetR.is (o := { dst := some 79, op := Op.move (Operand.tmp 15), type := 62, pos := "law.go:73", after := #[], guard := none }) (u := ?ux1) rfl (by decide) (fun T w' hb hd hB K hK => ?sx1) ?rx1
  case sx1 =>
    have e15 := (hB 15 (by kernel_rfl)).trans hT15
    rw [if_pos (wanted_none _ rfl)]
    clear hd hB
    go_simp
    exact hK _ (Below.refl _ _)
  refine DetR.is (o := { dst := some 80, op := Op.load 30 (Operand.tmp 11), type := 30, pos := "law.go:73", after := #[], guard := none }) (u := ?ux2) rfl (by decide) (fun T w' hb hd hB K hK => ?sx2) ?rx2
  case sx2 =>
    have e11 := (hB 11 (by kernel_rfl)).trans hT11
    have q11_0 : w'.cell? ⟨ga, 0, none⟩ = some (xf) := (blk_cell (blk_below hX11 hb) 0).trans rfl
    have q11_1 : w'.cell? ⟨ga, 1, none⟩ = some (xl) := (blk_cell (blk_below hX11 hb) 1).trans rfl
    rw [if_pos (wanted_none _ rfl)]
    clear hd hB
    go_simp
    exact hK _ (Below.refl _ _)
  refine DetR.cons (o := { dst := some 81, op := Op.call { callee := Callee.value (Operand.func 53), args := #[Operand.tmp 79, Operand.tmp 80], argTypes := #[62, 30] }, type := 30, pos := "law.go:73", after := #[{ on := 0, ground := Ground.data }, { on := 1, ground := Ground.data }], guard := none }) (TermTold k30 rf rs) rfl (by decide) (TermTold.grows _ _ _) (fun T w' hb hd hB K hK => ?sx3) ?rx3
  case sx3 =>
    have e79 := hd 0 79 _ (by decide) (by kernel_rfl) rfl rfl
    replace e79 : T.getD 79 undef = _ := e79
    have e80 := hd 1 80 _ (by decide) (by kernel_rfl) rfl rfl
    replace e80 : T.getD 80 undef = _ := e80
    rw [if_pos (wanted_none _ rfl)]
    have hcl := hF2 w' hb
    clear hd hB
    go_simp
    go_at_call 53
    refine hcl.mono ?_
    rintro e w2 ⟨u, rfl, h1, h2⟩
    exact hK _ _ h2 h1
  refine DetR.is (o := { dst := some 82, op := Op.move (Operand.tmp 15), type := 62, pos := "law.go:73", after := #[], guard := none }) (u := ?ux4) rfl (by decide) (fun T w' hb hd hB K hK => ?sx4) ?rx4
  case sx4 =>
    have e15 := (hB 15 (by kernel_rfl)).trans hT15
    rw [if_pos (wanted_none _ rfl)]
    clear hd hB
    go_simp
    exact hK _ (Below.refl _ _)
  refine DetR.is (o := { dst := some 83, op := Op.load 30 (Operand.tmp 12), type := 30, pos := "law.go:73", after := #[], guard := none }) (u := ?ux5) rfl (by decide) (fun T w' hb hd hB K hK => ?sx5) ?rx5
  case sx5 =>
    have e12 := (hB 12 (by kernel_rfl)).trans hT12
    have q12_0 : w'.cell? ⟨gb, 0, none⟩ = some (yf) := (blk_cell (blk_below hX12 hb) 0).trans rfl
    have q12_1 : w'.cell? ⟨gb, 1, none⟩ = some (yl) := (blk_cell (blk_below hX12 hb) 1).trans rfl
    rw [if_pos (wanted_none _ rfl)]
    clear hd hB
    go_simp
    exact hK _ (Below.refl _ _)
  refine DetR.cons (o := { dst := some 84, op := Op.call { callee := Callee.value (Operand.func 53), args := #[Operand.tmp 82, Operand.tmp 83], argTypes := #[62, 30] }, type := 30, pos := "law.go:73", after := #[{ on := 3, ground := Ground.data }, { on := 4, ground := Ground.data }, { on := 2, ground := Ground.chain }], guard := none }) (TermTold k30 sf ss) rfl (by decide) (TermTold.grows _ _ _) (fun T w' hb hd hB K hK => ?sx6) ?rx6
  case sx6 =>
    have e82 := hd 3 82 _ (by decide) (by kernel_rfl) rfl rfl
    replace e82 : T.getD 82 undef = _ := e82
    have e83 := hd 4 83 _ (by decide) (by kernel_rfl) rfl rfl
    replace e83 : T.getD 83 undef = _ := e83
    rw [if_pos (wanted_none _ rfl)]
    have hcl := hF5 w' hb
    clear hd hB
    go_simp
    go_at_call 53
    refine hcl.mono ?_
    rintro e w2 ⟨u, rfl, h1, h2⟩
    exact hK _ _ h2 h1
  refine DetR.is (o := { dst := some 85, op := Op.call { callee := Callee.value (Operand.func 43), args := #[Operand.tmp 81, Operand.tmp 84], argTypes := #[30, 30] }, type := 3, pos := "law.go:73", after := #[{ on := 2, ground := Ground.data }, { on := 5, ground := Ground.data }, { on := 5, ground := Ground.chain }], guard := none }) (u := .int .i64 k) rfl (by decide) (fun T w' hb hd hB K hK => ?sx7) ?rx7
  case sx7 =>
    obtain ⟨A81, c81, e81, hl81, hC81⟩ := (hd 2 81 _ (by decide) (by kernel_rfl) rfl rfl)
    obtain ⟨A84, c84, e84, hl84, hC84⟩ := (hd 5 84 _ (by decide) (by kernel_rfl) rfl rfl)
    rw [if_pos (wanted_none _ rfl)]
    have hcl := hG w' A81 A84 c81 c84 hb hl81 hC81 hl84 hC84
    clear hd hB
    go_simp
    go_at_call 43
    refine hcl.mono ?_
    rintro e w2 ⟨rfl, h2⟩
    exact hK _ h2
  refine DetR.is (o := { dst := some 86, op := Op.move (Operand.tmp 14), type := 3, pos := "law.go:73", after := #[], guard := none }) (u := ?ux8) rfl (by decide) (fun T w' hb hd hB K hK => ?sx8) ?rx8
  case sx8 =>
    have e14 := (hB 14 (by kernel_rfl)).trans hT14
    rw [if_pos (wanted_none _ rfl)]
    clear hd hB
    go_simp
    exact hK _ (Below.refl _ _)
  refine DetR.is (o := { dst := some 87, op := Op.binOp BinOp.eql 3 (Operand.tmp 85) (Operand.tmp 86) 3, type := 4, pos := "law.go:73", after := #[{ on := 6, ground := Ground.data }, { on := 7, ground := Ground.data }], guard := none }) (u := .bool true) rfl (by decide) (fun T w' hb hd hB K hK => ?sx9) ?rx9
  case sx9 =>
    have e85 := hd 6 85 _ (by decide) (by kernel_rfl) rfl rfl
    replace e85 : T.getD 85 undef = _ := e85
    have e86 := hd 7 86 _ (by decide) (by kernel_rfl) rfl rfl
    replace e86 : T.getD 86 undef = _ := e86
    rw [if_pos (wanted_none _ rfl)]
    clear hd hB
    go_simp
    try simp only [beq_self_eq_true]
    exact hK _ (Below.refl _ _)
  refine DetR.is (o := { dst := some 88, op := Op.move (Operand.tmp 87), type := 4, pos := "law.go:73", after := #[{ on := 8, ground := Ground.data }, { on := 6, ground := Ground.chain }], guard := none }) (u := .bool true) rfl (by decide) (fun T w' hb hd hB K hK => ?sx10) ?rx10
  case sx10 =>
    have e87 := hd 8 87 _ (by decide) (by kernel_rfl) rfl rfl
    replace e87 : T.getD 87 undef = _ := e87
    rw [if_pos (wanted_none _ rfl)]
    clear hd hB
    go_simp
    exact hK _ (Below.refl _ _)
  refine DetR.is (o := { dst := some 89, op := Op.load 30 (Operand.tmp 18), type := 30, pos := "law.go:73", after := #[{ on := 9, ground := Ground.guard }], guard := some (9, true) }) (u := ?ux11) rfl (by decide) (fun T w' hb hd hB K hK => ?sx11) ?rx11
  case sx11 =>
    have e18 := (hB 18 (by kernel_rfl)).trans hT18
    have q18_0 : w'.cell? ⟨gz, 0, none⟩ = some (zf) := (blk_cell (blk_below hX18 hb) 0).trans rfl
    have q18_1 : w'.cell? ⟨gz, 1, none⟩ = some (zl) := (blk_cell (blk_below hX18 hb) 1).trans rfl
    have eg := hd 9 88 _ (by decide) (by kernel_rfl) rfl rfl
    replace eg : T.getD 88 undef = .bool true := eg
    rw [if_pos (wanted_yes 9 88 true rfl rfl eg)]
    clear eg
    clear hd hB
    go_simp
    exact hK _ (Below.refl _ _)
  refine DetR.is (o := { dst := some 90, op := Op.load 30 (Operand.tmp 20), type := 30, pos := "law.go:73", after := #[{ on := 9, ground := Ground.guard }], guard := some (9, true) }) (u := ?ux12) rfl (by decide) (fun T w' hb hd hB K hK => ?sx12) ?rx12
  case sx12 =>
    have e20 := (hB 20 (by kernel_rfl)).trans hT20
    have q20_0 : w'.cell? ⟨gv, 0, none⟩ = some (vf) := (blk_cell (blk_below hX20 hb) 0).trans rfl
    have q20_1 : w'.cell? ⟨gv, 1, none⟩ = some (vl) := (blk_cell (blk_below hX20 hb) 1).trans rfl
    have eg := hd 9 88 _ (by decide) (by kernel_rfl) rfl rfl
    replace eg : T.getD 88 undef = .bool true := eg
    rw [if_pos (wanted_yes 9 88 true rfl rfl eg)]
    clear eg
    clear hd hB
    go_simp
    exact hK _ (Below.refl _ _)
  refine DetR.is (o := { dst := some 91, op := Op.call { callee := Callee.value (Operand.func 43), args := #[Operand.tmp 89, Operand.tmp 90], argTypes := #[30, 30] }, type := 3, pos := "law.go:73", after := #[{ on := 10, ground := Ground.data }, { on := 11, ground := Ground.data }, { on := 9, ground := Ground.chain }, { on := 9, ground := Ground.guard }], guard := some (9, true) }) (u := ?ux13) rfl (by decide) (fun T w' hb hd hB K hK => ?sx13) ?rx13
  case sx13 =>
    have e89 := hd 10 89 _ (by decide) (by kernel_rfl) rfl rfl
    replace e89 : T.getD 89 undef = _ := e89
    have e90 := hd 11 90 _ (by decide) (by kernel_rfl) rfl rfl
    replace e90 : T.getD 90 undef = _ := e90
    have eg := hd 9 88 _ (by decide) (by kernel_rfl) rfl rfl
    replace eg : T.getD 88 undef = .bool true := eg
    rw [if_pos (wanted_yes 9 88 true rfl rfl eg)]
    clear eg
    have hcl := hF12 w' hb
    clear hd hB
    go_simp
    go_at_call 43
    refine hcl.mono ?_
    rintro e w2 ⟨rfl, h2⟩
    exact hK _ h2
  refine DetR.is (o := { dst := some 92, op := Op.move (Operand.tmp 14), type := 3, pos := "law.go:73", after := #[{ on := 9, ground := Ground.guard }], guard := some (9, true) }) (u := ?ux14) rfl (by decide) (fun T w' hb hd hB K hK => ?sx14) ?rx14
  case sx14 =>
    have e14 := (hB 14 (by kernel_rfl)).trans hT14
    have eg := hd 9 88 _ (by decide) (by kernel_rfl) rfl rfl
    replace eg : T.getD 88 undef = .bool true := eg
    rw [if_pos (wanted_yes 9 88 true rfl rfl eg)]
    clear eg
    clear hd hB
    go_simp
    exact hK _ (Below.refl _ _)
  refine DetR.is (o := { dst := some 93, op := Op.binOp BinOp.eql 3 (Operand.tmp 91) (Operand.tmp 92) 3, type := 4, pos := "law.go:73", after := #[{ on := 12, ground := Ground.data }, { on := 13, ground := Ground.data }, { on := 9, ground := Ground.guard }], guard := some (9, true) }) (u := .bool true) rfl (by decide) (fun T w' hb hd hB K hK => ?sx15) ?rx15
  case sx15 =>
    have e91 := hd 12 91 _ (by decide) (by kernel_rfl) rfl rfl
    replace e91 : T.getD 91 undef = _ := e91
    have e92 := hd 13 92 _ (by decide) (by kernel_rfl) rfl rfl
    replace e92 : T.getD 92 undef = _ := e92
    have eg := hd 9 88 _ (by decide) (by kernel_rfl) rfl rfl
    replace eg : T.getD 88 undef = .bool true := eg
    rw [if_pos (wanted_yes 9 88 true rfl rfl eg)]
    clear eg
    clear hd hB
    go_simp
    try simp only [beq_self_eq_true]
    exact hK _ (Below.refl _ _)
  refine DetR.is (o := { dst := some 94, op := Op.pick (Operand.tmp 88) (Operand.tmp 93) (Operand.const (Value.bool false)), type := 4, pos := "law.go:73", after := #[{ on := 9, ground := Ground.data }, { on := 14, ground := Ground.data }], guard := none }) (u := .bool true) rfl (by decide) (fun T w' hb hd hB K hK => ?sx16) ?rx16
  case sx16 =>
    have e88 := hd 9 88 _ (by decide) (by kernel_rfl) rfl rfl
    replace e88 : T.getD 88 undef = _ := e88
    have e93 := hd 14 93 _ (by decide) (by kernel_rfl) rfl rfl
    replace e93 : T.getD 93 undef = _ := e93
    rw [if_pos (wanted_none _ rfl)]
    clear hd hB
    go_simp
    exact hK _ (Below.refl _ _)
  refine DetR.is (o := { dst := some 10, op := Op.assign (Operand.tmp 94), type := 4, pos := "law.go:73", after := #[{ on := 15, ground := Ground.data }, { on := 12, ground := Ground.chain }, { on := 0, ground := Ground.phase }, { on := 1, ground := Ground.phase }, { on := 2, ground := Ground.phase }, { on := 3, ground := Ground.phase }, { on := 4, ground := Ground.phase }, { on := 5, ground := Ground.phase }, { on := 6, ground := Ground.phase }, { on := 7, ground := Ground.phase }, { on := 8, ground := Ground.phase }, { on := 9, ground := Ground.phase }, { on := 10, ground := Ground.phase }, { on := 11, ground := Ground.phase }, { on := 12, ground := Ground.phase }, { on := 13, ground := Ground.phase }, { on := 14, ground := Ground.phase }, { on := 15, ground := Ground.phase }], guard := none }) (u := ?ux17) rfl (by decide) (fun T w' hb hd hB K hK => ?sx17) ?rx17
  case sx17 =>
    have e94 := hd 15 94 _ (by decide) (by kernel_rfl) rfl rfl
    replace e94 : T.getD 94 undef = _ := e94
    rw [if_pos (wanted_none _ rfl)]
    clear hd hB
    go_simp
    exact hK _ (Below.refl _ _)
  refine DetR.done [some 79, some 80, some 81, some 82, some 83, some 84, some 85, some 86, some 87, some 88, some 89, some 90, some 91, some 92, some 93, some 94, some 10] (by kernel_rfl) rfl (by kernel_rfl) ?_
  intro v w' hb hv
  exact hK v w' hb (hv 16 _ (by decide) rfl)
end Go.Proofs.Ytpfddihcikiofaa.P
end

section
namespace Go.Proofs.Ytpfddihcikiofaa.P
open Go.RowKit Go.Proofs.YtpfddihcikiofaaW.PrintWords Go.Proofs.YtpfddihcikiofaaW.PrintLast Go.Proofs.YtpfddihcikiofaaW.PrintMore
set_option linter.unusedVariables false
set_option linter.unusedSimpArgs false
theorem put_kcmp {q : List Int} {t x y z1 z2 : S30} (h1 : put0 q t x = some z1) (h2 : put0 q t y = some z2) : kcmp z1 z2 = kcmp x y := by
  obtain ⟨e1, e2⟩ := put_ctx q t x y z1 z2 h1 h2
  obtain ⟨e3, _⟩ := put_ctx q t y x z2 z1 h2 h1
  unfold kcmp
  rw [e1, e2, e3]
theorem clone_len (t : S30) : (nodes (cloneT t)).length = (nodes t).length := (cmp_len t (cloneT t) (cmp_clone' t)).symm
theorem appG_small (s : List S114) (hs : ∀ b ∈ s, ok b.f1 ∧ (nodes b.f1).length ≤ 20) (f : Int) (hf : f < 0) (hf2 : -1000 ≤ f) : (nodes (appG s f)).length ≤ 20 ∧ SmallN (appG s f) := by
  unfold appG
  cases h : getB s (-1 - f) with
  | none =>
    refine ⟨by simp [nodes, hf], fun y hy => ?_⟩
    simp [nodes, hf] at hy
    subst hy
    exact ⟨by show -1000000 ≤ f; omega, by show f ≤ 1000000; omega⟩
  | some t =>
    obtain ⟨b, hb, rfl⟩ := getB_mem s _ t h
    obtain ⟨h1, h2⟩ := hs b hb
    have hft := fit_of_ok b.f1 h1 (by omega)
    exact ⟨by show (nodes (cloneT b.f1)).length ≤ 20; rw [clone_len]; exact h2, (eqv_fit (cmp_clone' b.f1) hft).2⟩
set_option maxHeartbeats 8000000 in
set_option maxRecDepth 100000 in
theorem KboStable_walk (a b d : S24) (s : List S112) (n : Int) (A : Option Addr) (c : Nat) (A' : Option Addr) (c' : Nat) (A2 : Option Addr) (c2 : Nat) (As : Option Addr) (cs : Nat) (w : World) (hn : 0 ≤ n ∧ n ≤ 255)
    (hA : k24.C w A a.f1.length a.f1) (hc : a.f1.length ≤ c) (hA' : k24.C w A' b.f1.length b.f1) (hc' : b.f1.length ≤ c') (hA2 : k24.C w A2 d.f1.length d.f1) (hc2 : d.f1.length ≤ c2) (hS : k112.C w As s.length s) (hcs : s.length ≤ cs) :
    Calls Try.prog 14 #[.agg #[.int .i64 a.f0, .slice A a.f1.length c], .agg #[.int .i64 b.f0, .slice A' b.f1.length c'], .agg #[.int .i64 d.f0, .slice A2 d.f1.length c2], .slice As s.length cs, .int .u8 n] w fun e w' => e = .returned (.bool true) ∧ Below w.heap.size w w' := by
  have hmx : Try.prog.follows .mixedOrders = true := by kernel_rfl
  obtain ⟨r1, hr1, _, _, hok1⟩ := Small_spec 11 a 20 10 (by decide) (by decide) (by decide) (by decide)
  obtain ⟨r2, hr2, _, _, hok2⟩ := Small_spec 11 b 20 10 (by decide) (by decide) (by decide) (by decide)
  obtain ⟨r3, hr3, _, _, hok3⟩ := Small_spec 11 d 20 10 (by decide) (by decide) (by decide) (by decide)
  obtain ⟨vf, hvf, hokf⟩ := Fine07_spec s hS.2.1
  obtain ⟨ka, ea⟩ := hr1.rounds
  obtain ⟨kb, eb⟩ := hr2.rounds
  obtain ⟨kd, ed⟩ := hr3.rounds
  obtain ⟨kf, ef⟩ := hvf.rounds
  have FS := Aside0.mk (And.intro ea (And.intro eb (And.intro ed ef)))
  obtain ⟨kz, hal⟩ := alive10.rounds
  have hbA : Aside0 (∀ w1, Below w.heap.size w w1 → k24.C w1 A a.f1.length a.f1) := ⟨fun w1 h => Kd.C_below hA h⟩
  have hbB : Aside0 (∀ w1, Below w.heap.size w w1 → k24.C w1 A' b.f1.length b.f1) := ⟨fun w1 h => Kd.C_below hA' h⟩
  have hbD : Aside0 (∀ w1, Below w.heap.size w w1 → k24.C w1 A2 d.f1.length d.f1) := ⟨fun w1 h => Kd.C_below hA2 h⟩
  have hbS : Aside0 (∀ w1, Below w.heap.size w w1 → k112.C w1 As s.length s) := ⟨fun w1 h => Kd.C_below hS h⟩
  clear hA hA' hA2 hS hr1 hr2 hr3 hvf ea eb ed ef
  go_enter Try.func14, Try.ntmps14
  by_cases e1 : r1 < 0
  · have d1 : decide (r1 < 0) = true := decide_eq_true e1
    clear e1
    go_wp2_with (first | (go_at_call 50; refine (soriteslaw06_Small.calls ka _ _ _ a.f1 20 10 r1 _ (hbA.out _ hB1) hc FS.out.1).mono ?_; rintro e w2 ⟨rfl, hb⟩; have hB2 : Below w.heap.size w w2 := hB1.trans (hb.mono hB1.size); have hh0 := blk_below hg0 hb; have hh1 := blk_below hg1 hb; have hh2 := blk_below hg2 hb; have hy0 : w2.cell? ⟨w.heap.size + 1, 0, none⟩ = some (.int .i64 b.f0) := (blk_cell hh1 0).trans rfl; have hy1 : w2.cell? ⟨w.heap.size + 1, 1, none⟩ = some (.slice A' b.f1.length c') := (blk_cell hh1 1).trans rfl; clear hb) | (go_at_call 40; refine (soriteslaw10_alive.calls kz true _ hal).mono ?_; rintro e w1 ⟨rfl, hb1⟩; have hs1 := hb1.size; simp only [World.size_alloc] at hs1; have hB1 : Below w.heap.size w w1 := (below_alloc (below_alloc (below_alloc (Below.refl _ _) _) _) _).trans (hb1.mono (by simp; omega)); have hg0 : w1.heap[w.heap.size]? = some (.cells #[.int .i64 a.f0, .slice A a.f1.length c] 24 (0, 0)) := blk_below (blk_alloc (blk_alloc (heap_alloc_new _ _) _) _) hb1; have hg1 : w1.heap[w.heap.size + 1]? = some (.cells #[.int .i64 b.f0, .slice A' b.f1.length c'] 24 (0, 0)) := blk_below (blk_alloc (by have := heap_alloc_new (w.alloc (.cells #[.int .i64 a.f0, .slice A a.f1.length c] 24)) (.cells #[.int .i64 b.f0, .slice A' b.f1.length c'] 24); rw [World.size_alloc] at this; exact this) _) hb1; have hg2 : w1.heap[w.heap.size + 1 + 1]? = some (.cells #[.int .i64 d.f0, .slice A2 d.f1.length c2] 24 (0, 0)) := blk_below (by have := heap_alloc_new ((w.alloc (.cells #[.int .i64 a.f0, .slice A a.f1.length c] 24)).alloc (.cells #[.int .i64 b.f0, .slice A' b.f1.length c'] 24)) (.cells #[.int .i64 d.f0, .slice A2 d.f1.length c2] 24); rw [World.size_alloc, World.size_alloc] at this; exact this) hb1; have hx0 : w1.cell? ⟨w.heap.size, 0, none⟩ = some (.int .i64 a.f0) := (blk_cell hg0 0).trans rfl; have hx1 : w1.cell? ⟨w.heap.size, 1, none⟩ = some (.slice A a.f1.length c) := (blk_cell hg0 1).trans rfl))
    go_ret
    exact ⟨rfl, hB2⟩
  have d1 : decide (r1 < 0) = false := decide_eq_false e1
  by_cases e2 : r2 < 0
  · have d2 : decide (r2 < 0) = true := decide_eq_true e2
    clear e1 e2
    go_wp2_with (first | (go_at_call 50; refine (soriteslaw06_Small.calls kb _ _ _ b.f1 20 10 r2 _ (hbB.out _ hB2) hc' FS.out.2.1).mono ?_; rintro e w3 ⟨rfl, hb⟩; have hB3 : Below w.heap.size w w3 := hB2.trans (hb.mono hB2.size); have hi0 := blk_below hh0 hb; have hi1 := blk_below hh1 hb; have hi2 := blk_below hh2 hb; have hz0 : w3.cell? ⟨w.heap.size + 1 + 1, 0, none⟩ = some (.int .i64 d.f0) := (blk_cell hi2 0).trans rfl; have hz1 : w3.cell? ⟨w.heap.size + 1 + 1, 1, none⟩ = some (.slice A2 d.f1.length c2) := (blk_cell hi2 1).trans rfl; clear hb) | (go_at_call 50; refine (soriteslaw06_Small.calls ka _ _ _ a.f1 20 10 r1 _ (hbA.out _ hB1) hc FS.out.1).mono ?_; rintro e w2 ⟨rfl, hb⟩; have hB2 : Below w.heap.size w w2 := hB1.trans (hb.mono hB1.size); have hh0 := blk_below hg0 hb; have hh1 := blk_below hg1 hb; have hh2 := blk_below hg2 hb; have hy0 : w2.cell? ⟨w.heap.size + 1, 0, none⟩ = some (.int .i64 b.f0) := (blk_cell hh1 0).trans rfl; have hy1 : w2.cell? ⟨w.heap.size + 1, 1, none⟩ = some (.slice A' b.f1.length c') := (blk_cell hh1 1).trans rfl; clear hb) | (go_at_call 40; refine (soriteslaw10_alive.calls kz true _ hal).mono ?_; rintro e w1 ⟨rfl, hb1⟩; have hs1 := hb1.size; simp only [World.size_alloc] at hs1; have hB1 : Below w.heap.size w w1 := (below_alloc (below_alloc (below_alloc (Below.refl _ _) _) _) _).trans (hb1.mono (by simp; omega)); have hg0 : w1.heap[w.heap.size]? = some (.cells #[.int .i64 a.f0, .slice A a.f1.length c] 24 (0, 0)) := blk_below (blk_alloc (blk_alloc (heap_alloc_new _ _) _) _) hb1; have hg1 : w1.heap[w.heap.size + 1]? = some (.cells #[.int .i64 b.f0, .slice A' b.f1.length c'] 24 (0, 0)) := blk_below (blk_alloc (by have := heap_alloc_new (w.alloc (.cells #[.int .i64 a.f0, .slice A a.f1.length c] 24)) (.cells #[.int .i64 b.f0, .slice A' b.f1.length c'] 24); rw [World.size_alloc] at this; exact this) _) hb1; have hg2 : w1.heap[w.heap.size + 1 + 1]? = some (.cells #[.int .i64 d.f0, .slice A2 d.f1.length c2] 24 (0, 0)) := blk_below (by have := heap_alloc_new ((w.alloc (.cells #[.int .i64 a.f0, .slice A a.f1.length c] 24)).alloc (.cells #[.int .i64 b.f0, .slice A' b.f1.length c'] 24)) (.cells #[.int .i64 d.f0, .slice A2 d.f1.length c2] 24); rw [World.size_alloc, World.size_alloc] at this; exact this) hb1; have hx0 : w1.cell? ⟨w.heap.size, 0, none⟩ = some (.int .i64 a.f0) := (blk_cell hg0 0).trans rfl; have hx1 : w1.cell? ⟨w.heap.size, 1, none⟩ = some (.slice A a.f1.length c) := (blk_cell hg0 1).trans rfl))
    go_ret
    exact ⟨rfl, hB3⟩
  have d2 : decide (r2 < 0) = false := decide_eq_false e2
  by_cases e3 : r3 < 0
  · have d3 : decide (r3 < 0) = true := decide_eq_true e3
    clear e1 e2 e3
    go_wp2_with (first | (go_at_call 50; refine (soriteslaw06_Small.calls kd _ _ _ d.f1 20 10 r3 _ (hbD.out _ hB3) hc2 FS.out.2.2.1).mono ?_; rintro e w4 ⟨rfl, hb⟩; have hB4 : Below w.heap.size w w4 := hB3.trans (hb.mono hB3.size); have hj0 := blk_below hi0 hb; have hj1 := blk_below hi1 hb; have hj2 := blk_below hi2 hb; skip; clear hb) | (go_at_call 50; refine (soriteslaw06_Small.calls kb _ _ _ b.f1 20 10 r2 _ (hbB.out _ hB2) hc' FS.out.2.1).mono ?_; rintro e w3 ⟨rfl, hb⟩; have hB3 : Below w.heap.size w w3 := hB2.trans (hb.mono hB2.size); have hi0 := blk_below hh0 hb; have hi1 := blk_below hh1 hb; have hi2 := blk_below hh2 hb; have hz0 : w3.cell? ⟨w.heap.size + 1 + 1, 0, none⟩ = some (.int .i64 d.f0) := (blk_cell hi2 0).trans rfl; have hz1 : w3.cell? ⟨w.heap.size + 1 + 1, 1, none⟩ = some (.slice A2 d.f1.length c2) := (blk_cell hi2 1).trans rfl; clear hb) | (go_at_call 50; refine (soriteslaw06_Small.calls ka _ _ _ a.f1 20 10 r1 _ (hbA.out _ hB1) hc FS.out.1).mono ?_; rintro e w2 ⟨rfl, hb⟩; have hB2 : Below w.heap.size w w2 := hB1.trans (hb.mono hB1.size); have hh0 := blk_below hg0 hb; have hh1 := blk_below hg1 hb; have hh2 := blk_below hg2 hb; have hy0 : w2.cell? ⟨w.heap.size + 1, 0, none⟩ = some (.int .i64 b.f0) := (blk_cell hh1 0).trans rfl; have hy1 : w2.cell? ⟨w.heap.size + 1, 1, none⟩ = some (.slice A' b.f1.length c') := (blk_cell hh1 1).trans rfl; clear hb) | (go_at_call 40; refine (soriteslaw10_alive.calls kz true _ hal).mono ?_; rintro e w1 ⟨rfl, hb1⟩; have hs1 := hb1.size; simp only [World.size_alloc] at hs1; have hB1 : Below w.heap.size w w1 := (below_alloc (below_alloc (below_alloc (Below.refl _ _) _) _) _).trans (hb1.mono (by simp; omega)); have hg0 : w1.heap[w.heap.size]? = some (.cells #[.int .i64 a.f0, .slice A a.f1.length c] 24 (0, 0)) := blk_below (blk_alloc (blk_alloc (heap_alloc_new _ _) _) _) hb1; have hg1 : w1.heap[w.heap.size + 1]? = some (.cells #[.int .i64 b.f0, .slice A' b.f1.length c'] 24 (0, 0)) := blk_below (blk_alloc (by have := heap_alloc_new (w.alloc (.cells #[.int .i64 a.f0, .slice A a.f1.length c] 24)) (.cells #[.int .i64 b.f0, .slice A' b.f1.length c'] 24); rw [World.size_alloc] at this; exact this) _) hb1; have hg2 : w1.heap[w.heap.size + 1 + 1]? = some (.cells #[.int .i64 d.f0, .slice A2 d.f1.length c2] 24 (0, 0)) := blk_below (by have := heap_alloc_new ((w.alloc (.cells #[.int .i64 a.f0, .slice A a.f1.length c] 24)).alloc (.cells #[.int .i64 b.f0, .slice A' b.f1.length c'] 24)) (.cells #[.int .i64 d.f0, .slice A2 d.f1.length c2] 24); rw [World.size_alloc, World.size_alloc] at this; exact this) hb1; have hx0 : w1.cell? ⟨w.heap.size, 0, none⟩ = some (.int .i64 a.f0) := (blk_cell hg0 0).trans rfl; have hx1 : w1.cell? ⟨w.heap.size, 1, none⟩ = some (.slice A a.f1.length c) := (blk_cell hg0 1).trans rfl))
    go_ret
    exact ⟨rfl, hB4⟩
  have d3 : decide (r3 < 0) = false := decide_eq_false e3
  have hoka := hok1 (by omega)
  have hokb := hok2 (by omega)
  have hokd := hok3 (by omega)
  have hna : (nodes a).length ≤ 20 := by have := nodes_le a; have := hoka.2; omega
  have hnb : (nodes b).length ≤ 20 := by have := nodes_le b; have := hokb.2; omega
  have hnd : (nodes d).length ≤ 20 := by have := nodes_le d; have := hokd.2; omega
  cases vf with
  | false =>
    clear e1 e2 e3
    go_wp2_with (first | (go_at_call 51; refine (soriteslaw07_Fine.calls kf _ _ s _ w4 (hbS.out _ hB4) hcs FS.out.2.2.2).mono ?_; rintro e w5 ⟨rfl, hb⟩; have hB5 : Below w.heap.size w w5 := hB4.trans (hb.mono hB4.size); have hk0 := blk_below hj0 hb; have hk1 := blk_below hj1 hb; have hk2 := blk_below hj2 hb; clear hb) | (go_at_call 50; refine (soriteslaw06_Small.calls kd _ _ _ d.f1 20 10 r3 _ (hbD.out _ hB3) hc2 FS.out.2.2.1).mono ?_; rintro e w4 ⟨rfl, hb⟩; have hB4 : Below w.heap.size w w4 := hB3.trans (hb.mono hB3.size); have hj0 := blk_below hi0 hb; have hj1 := blk_below hi1 hb; have hj2 := blk_below hi2 hb; skip; clear hb) | (go_at_call 50; refine (soriteslaw06_Small.calls kb _ _ _ b.f1 20 10 r2 _ (hbB.out _ hB2) hc' FS.out.2.1).mono ?_; rintro e w3 ⟨rfl, hb⟩; have hB3 : Below w.heap.size w w3 := hB2.trans (hb.mono hB2.size); have hi0 := blk_below hh0 hb; have hi1 := blk_below hh1 hb; have hi2 := blk_below hh2 hb; have hz0 : w3.cell? ⟨w.heap.size + 1 + 1, 0, none⟩ = some (.int .i64 d.f0) := (blk_cell hi2 0).trans rfl; have hz1 : w3.cell? ⟨w.heap.size + 1 + 1, 1, none⟩ = some (.slice A2 d.f1.length c2) := (blk_cell hi2 1).trans rfl; clear hb) | (go_at_call 50; refine (soriteslaw06_Small.calls ka _ _ _ a.f1 20 10 r1 _ (hbA.out _ hB1) hc FS.out.1).mono ?_; rintro e w2 ⟨rfl, hb⟩; have hB2 : Below w.heap.size w w2 := hB1.trans (hb.mono hB1.size); have hh0 := blk_below hg0 hb; have hh1 := blk_below hg1 hb; have hh2 := blk_below hg2 hb; have hy0 : w2.cell? ⟨w.heap.size + 1, 0, none⟩ = some (.int .i64 b.f0) := (blk_cell hh1 0).trans rfl; have hy1 : w2.cell? ⟨w.heap.size + 1, 1, none⟩ = some (.slice A' b.f1.length c') := (blk_cell hh1 1).trans rfl; clear hb) | (go_at_call 40; refine (soriteslaw10_alive.calls kz true _ hal).mono ?_; rintro e w1 ⟨rfl, hb1⟩; have hs1 := hb1.size; simp only [World.size_alloc] at hs1; have hB1 : Below w.heap.size w w1 := (below_alloc (below_alloc (below_alloc (Below.refl _ _) _) _) _).trans (hb1.mono (by simp; omega)); have hg0 : w1.heap[w.heap.size]? = some (.cells #[.int .i64 a.f0, .slice A a.f1.length c] 24 (0, 0)) := blk_below (blk_alloc (blk_alloc (heap_alloc_new _ _) _) _) hb1; have hg1 : w1.heap[w.heap.size + 1]? = some (.cells #[.int .i64 b.f0, .slice A' b.f1.length c'] 24 (0, 0)) := blk_below (blk_alloc (by have := heap_alloc_new (w.alloc (.cells #[.int .i64 a.f0, .slice A a.f1.length c] 24)) (.cells #[.int .i64 b.f0, .slice A' b.f1.length c'] 24); rw [World.size_alloc] at this; exact this) _) hb1; have hg2 : w1.heap[w.heap.size + 1 + 1]? = some (.cells #[.int .i64 d.f0, .slice A2 d.f1.length c2] 24 (0, 0)) := blk_below (by have := heap_alloc_new ((w.alloc (.cells #[.int .i64 a.f0, .slice A a.f1.length c] 24)).alloc (.cells #[.int .i64 b.f0, .slice A' b.f1.length c'] 24)) (.cells #[.int .i64 d.f0, .slice A2 d.f1.length c2] 24); rw [World.size_alloc, World.size_alloc] at this; exact this) hb1; have hx0 : w1.cell? ⟨w.heap.size, 0, none⟩ = some (.int .i64 a.f0) := (blk_cell hg0 0).trans rfl; have hx1 : w1.cell? ⟨w.heap.size, 1, none⟩ = some (.slice A a.f1.length c) := (blk_cell hg0 1).trans rfl))
    go_ret
    exact ⟨rfl, hB5⟩
  | true =>
  obtain ⟨hsl, hsb⟩ := hokf rfl
  clear e1 e2 e3 hok1 hok2 hok3 hokf
  go_wp2_with (first | (go_at_call 51; refine (soriteslaw07_Fine.calls kf _ _ s _ w4 (hbS.out _ hB4) hcs FS.out.2.2.2).mono ?_; rintro e w5 ⟨rfl, hb⟩; have hB5 : Below w.heap.size w w5 := hB4.trans (hb.mono hB4.size); have hk0 := blk_below hj0 hb; have hk1 := blk_below hj1 hb; have hk2 := blk_below hj2 hb; clear hb) | (go_at_call 50; refine (soriteslaw06_Small.calls kd _ _ _ d.f1 20 10 r3 _ (hbD.out _ hB3) hc2 FS.out.2.2.1).mono ?_; rintro e w4 ⟨rfl, hb⟩; have hB4 : Below w.heap.size w w4 := hB3.trans (hb.mono hB3.size); have hj0 := blk_below hi0 hb; have hj1 := blk_below hi1 hb; have hj2 := blk_below hi2 hb; skip; clear hb) | (go_at_call 50; refine (soriteslaw06_Small.calls kb _ _ _ b.f1 20 10 r2 _ (hbB.out _ hB2) hc' FS.out.2.1).mono ?_; rintro e w3 ⟨rfl, hb⟩; have hB3 : Below w.heap.size w w3 := hB2.trans (hb.mono hB2.size); have hi0 := blk_below hh0 hb; have hi1 := blk_below hh1 hb; have hi2 := blk_below hh2 hb; have hz0 : w3.cell? ⟨w.heap.size + 1 + 1, 0, none⟩ = some (.int .i64 d.f0) := (blk_cell hi2 0).trans rfl; have hz1 : w3.cell? ⟨w.heap.size + 1 + 1, 1, none⟩ = some (.slice A2 d.f1.length c2) := (blk_cell hi2 1).trans rfl; clear hb) | (go_at_call 50; refine (soriteslaw06_Small.calls ka _ _ _ a.f1 20 10 r1 _ (hbA.out _ hB1) hc FS.out.1).mono ?_; rintro e w2 ⟨rfl, hb⟩; have hB2 : Below w.heap.size w w2 := hB1.trans (hb.mono hB1.size); have hh0 := blk_below hg0 hb; have hh1 := blk_below hg1 hb; have hh2 := blk_below hg2 hb; have hy0 : w2.cell? ⟨w.heap.size + 1, 0, none⟩ = some (.int .i64 b.f0) := (blk_cell hh1 0).trans rfl; have hy1 : w2.cell? ⟨w.heap.size + 1, 1, none⟩ = some (.slice A' b.f1.length c') := (blk_cell hh1 1).trans rfl; clear hb) | (go_at_call 40; refine (soriteslaw10_alive.calls kz true _ hal).mono ?_; rintro e w1 ⟨rfl, hb1⟩; have hs1 := hb1.size; simp only [World.size_alloc] at hs1; have hB1 : Below w.heap.size w w1 := (below_alloc (below_alloc (below_alloc (Below.refl _ _) _) _) _).trans (hb1.mono (by simp; omega)); have hg0 : w1.heap[w.heap.size]? = some (.cells #[.int .i64 a.f0, .slice A a.f1.length c] 24 (0, 0)) := blk_below (blk_alloc (blk_alloc (heap_alloc_new _ _) _) _) hb1; have hg1 : w1.heap[w.heap.size + 1]? = some (.cells #[.int .i64 b.f0, .slice A' b.f1.length c'] 24 (0, 0)) := blk_below (blk_alloc (by have := heap_alloc_new (w.alloc (.cells #[.int .i64 a.f0, .slice A a.f1.length c] 24)) (.cells #[.int .i64 b.f0, .slice A' b.f1.length c'] 24); rw [World.size_alloc] at this; exact this) _) hb1; have hg2 : w1.heap[w.heap.size + 1 + 1]? = some (.cells #[.int .i64 d.f0, .slice A2 d.f1.length c2] 24 (0, 0)) := blk_below (by have := heap_alloc_new ((w.alloc (.cells #[.int .i64 a.f0, .slice A a.f1.length c] 24)).alloc (.cells #[.int .i64 b.f0, .slice A' b.f1.length c'] 24)) (.cells #[.int .i64 d.f0, .slice A2 d.f1.length c2] 24); rw [World.size_alloc, World.size_alloc] at this; exact this) hb1; have hx0 : w1.cell? ⟨w.heap.size, 0, none⟩ = some (.int .i64 a.f0) := (blk_cell hg0 0).trans rfl; have hx1 : w1.cell? ⟨w.heap.size, 1, none⟩ = some (.slice A a.f1.length c) := (blk_cell hg0 1).trans rfl))
  refine of_three (x0 := a) (x1 := b) (x2 := d) (g0 := w.heap.size) (g1 := w.heap.size + 1) (g2 := w.heap.size + 1 + 1) (by kernel_rfl) (by kernel_rfl) rfl hk0 (hbA.out _ hB5) hc hoka.1 rfl hk1 (hbB.out _ hB5) hc' hokb.1 rfl hk2 (hbD.out _ hB5) hc2 hokd.1 ?_
  intro w6 X0 q0 h0 X1 q1 h1 X2 q2 h2 hb6 hge0 hx0' hq0 hC0 hge1 hx1' hq1 hC1 hge2 hx2' hq2 hC2
  have HB6 := Aside0.mk (hB5.trans (hb6.mono hB5.size))
  have HC0 := Aside0.mk hC0
  have HC1 := Aside0.mk hC1
  have HC2 := Aside0.mk hC2
  have HX0 := Aside0.mk hx0'
  have HX1 := Aside0.mk hx1'
  have HX2 := Aside0.mk hx2'
  have hfa := fit_of_ok a hoka.1 (by omega)
  have hfb := fit_of_ok b hokb.1 (by omega)
  have hfd := fit_of_ok d hokd.1 (by omega)
  obtain ⟨u, hu⟩ : ∃ u, u = s.map toB := ⟨_, rfl⟩
  have hsm : ∀ b ∈ u, ok b.f1 ∧ (nodes b.f1).length ≤ 20 := by
    intro b hb
    rw [hu] at hb
    obtain ⟨b', hb', rfl⟩ := List.mem_map.1 hb
    obtain ⟨_, _, g3, g4⟩ := hsb b' hb'
    exact ⟨g3, by have := nodes_le b'.f1; show (nodes b'.f1).length ≤ 20; omega⟩
  have hul : u.length ≤ 1000 := by rw [hu, List.length_map]; omega
  obtain ⟨ko, eo⟩ := (Of07_spec s (by omega) (fun b hb => (hsb b hb).2.2.1)).rounds
  rw [← hu] at eo
  obtain ⟨ax, hax⟩ : ∃ x, x = mapT (appG u) a := ⟨_, rfl⟩
  obtain ⟨bx, hbx⟩ : ∃ x, x = mapT (appG u) b := ⟨_, rfl⟩
  obtain ⟨kx, ex⟩ := (Apply_spec u hul (fun b hb => (hsm b hb).1) a hfa).rounds
  obtain ⟨ky, ey⟩ := (Apply_spec u hul (fun b hb => (hsm b hb).1) b hfb).rounds
  have hfx : fit ax := by rw [hax]; exact map_fit _ 20 (appG_small _ hsm) a (nums_ok a hoka.1) (by omega)
  have hfy : fit bx := by rw [hbx]; exact map_fit _ 20 (appG_small _ hsm) b (nums_ok b hokb.1) (by omega)
  rw [← hax] at ex
  rw [← hbx] at ey
  obtain ⟨kxy, exy⟩ := (KCompare_spec ax bx hfx hfy).rounds
  obtain ⟨k1, ek1⟩ := (KCompare_spec a b hfa hfb).rounds
  obtain ⟨k, hk⟩ : ∃ x, x = kcmp a b := ⟨_, rfl⟩
  rw [← hk] at ek1
  have hpl := Places_is (t := d) (by omega)
  obtain ⟨ls, hls⟩ : ∃ ls, ls = (flatP [] d).map Prod.fst := ⟨_, rfl⟩
  rw [← hls] at hpl
  have hll : ls.length = (nodes d).length := by rw [hls, List.length_map, flatP_len]
  have hlp : 1 ≤ ls.length := by have := nodes_pos d; omega
  have hj0 : 0 ≤ n % (ls.length : Int) := Int.emod_nonneg _ (by omega)
  have hj1 : n % (ls.length : Int) < ls.length := Int.emod_lt_of_pos _ (by omega)
  have hjt : (n % (ls.length : Int)).toNat < ls.length := by omega
  obtain ⟨q, hq⟩ : ∃ q, q = ls.getD (n % (ls.length : Int)).toNat [] := ⟨_, rfl⟩
  obtain ⟨t, ht⟩ : ∃ t, atT q d = some t := by
    have hm : q ∈ (flatP [] d).map Prod.fst := by rw [hq, ← hls, List.getD_eq_getElem?_getD, List.getElem?_eq_getElem hjt, Option.getD_some]; exact List.getElem_mem hjt
    obtain ⟨e, he, e1⟩ := List.mem_map.1 hm
    obtain ⟨q', h1, h2⟩ := flatP_at [] d e he
    refine ⟨e.2, ?_⟩
    rw [← e1, h1]
    exact h2
  have hput : ∀ x : S30, fit x → (nodes x).length ≤ 20 → ∃ z z', put0 q d x = some z ∧ putT q d x = some z' ∧ cmpT z z' = 0 ∧ fit z' := by
    intro x hfx hx
    obtain ⟨z, hz⟩ := put_some q d t x ht
    have hpe := put_eqv q d x
    rw [hz] at hpe
    obtain ⟨z', hz'⟩ : ∃ z', putT q d x = some z' := by
      cases h : putT q d x with
      | none => rw [h] at hpe; exact hpe.elim
      | some z' => exact ⟨z', rfl⟩
    rw [hz'] at hpe
    have hzl := put_len q d t x z ht hz
    have hfz := put_fit hz (by omega) hfd hfx
    exact ⟨z, z', hz, hz', eqv_symm hpe, eqv_fit (eqv_symm hpe) hfz⟩
  obtain ⟨y1, z1, hy1, hz1, hpe1, hf1⟩ := hput a hfa hna
  obtain ⟨y2, z2, hy2, hz2, hpe2, hf2⟩ := hput b hfb hnb
  obtain ⟨k2, ek2⟩ := (KCompare_spec z1 z2 hf1 hf2).rounds
  rw [kcmp_congr (eqv_symm hpe1) (eqv_symm hpe2), put_kcmp hy1 hy2, ← hk] at ek2
  have hst : k ≠ 2 → kcmp ax bx = k := fun h => by rw [hax, hbx, hk]; rw [hk] at h; exact kcmp_stable _ h
  have FC := Aside0.mk ek1
  have FO := Aside0.mk (And.intro eo hul)
  have FP := Aside0.mk (And.intro hpl hlp)
  have FQ := Aside0.mk hq
  have FF := Aside0.mk (And.intro hfa (And.intro hfb hfd))
  have FZ := Aside0.mk (And.intro hz1 hz2)
  have FX := Aside0.mk (And.intro ex (And.intro ey (And.intro exy (And.intro ek2 hst))))
  have FL := Aside0.mk hlp
  have hl0 : ((ls.length : Int) == 0) = false := by rw [beq_eq_false_iff_ne]; omega
  clear hu hbA hbB hbD hC0 hC1 hC2 hx0' hx1' hx2' hb6 hg0 hg1 hg2 hh0 hh1 hh2 hi0 hi1 hi2 hk0 hk1 hk2 hx0 hx1 hy0 hy1 hB1 hB2 hB3 hB4 hB5 hb1 hge0 hge1 hge2 hoka hokb hokd FS hfa hfb hfd hna hnb hnd hsl hsb hsm hul eo hax hbx ex ey hfx hfy exy ek1 hk hpl hls hll hlp hjt hq ht hput hz1 hpe1 hf1 hy2 hz2 hpe2 hf2 ek2 hst hs1 d1 d2 d3
  simp only [List.setIfInBounds_toArray, List.set_cons_zero, List.set_cons_succ]
  have k00 : w6.cell? ⟨h0, 0, none⟩ = some (.int .i64 a.f0) := (blk_cell HX0.out 0).trans rfl
  have k01 : w6.cell? ⟨h0, 1, none⟩ = some (.slice X0 a.f1.length q0) := (blk_cell HX0.out 1).trans rfl
  have k10 : w6.cell? ⟨h1, 0, none⟩ = some (.int .i64 b.f0) := (blk_cell HX1.out 0).trans rfl
  have k11 : w6.cell? ⟨h1, 1, none⟩ = some (.slice X1 b.f1.length q1) := (blk_cell HX1.out 1).trans rfl
  by_cases hk2 : k = 2
  · have hd : (k == 2) = true := by rw [hk2]; rfl
    clear hk2
    go_wp2_with (go_at_call 43; refine (kbo_Compare.calls k1 _ _ _ a.f1 _ _ _ b.f1 k w6 HC0.out hq0 HC1.out hq1 FC.out).mono ?_; rintro e w7 ⟨rfl, hb⟩; have HB7 := Aside0.mk (show Below w6.heap.size w6 w7 from hb); clear hb)
    go_ret
    exact ⟨rfl, HB6.out.trans (HB7.out.mono HB6.out.size)⟩
  have hd : (k == 2) = false := by rw [beq_eq_false_iff_ne]; exact hk2
  have HK := Aside0.mk hk2
  clear hk2
  go_wp2_with (first | (go_at_call 30; have hput := Put_any q d b (fun _ => True) X2 Aq X1 q2 cq q1 (w10.alloc (.cells #[.int .i64 z1.f0, .slice Az z1.f1.length cz] 30)) FF.out.2.2 FF.out.2.1 (Kd.F_mono (F_old k30_heap HC2.out (below_alloc HB10.out _)) (fun _ _ => trivial)) hq2 (Kd.C_below HCq10.out (below_alloc (Below.refl _ _) _)) HLq.out (Kd.F_mono (F_old k30_heap HC1.out (below_alloc HB10.out _)) (fun _ _ => trivial)) hq1; rw [FZ.out.2] at hput; simp only [Option.getD_some, Option.isSome_some] at hput; refine hput.mono ?_; clear hput; rintro e w11 ⟨Av, cv, rfl, hlz, hFz, hb⟩; have HB11 := Aside0.mk hb; have HFv := Aside0.mk hFz; have HLv := Aside0.mk hlz; clear hb hFz hlz) | (go_at_call 30; have hput := Put_any q d a (fun _ => True) X2 Aq X0 q2 cq q0 w9 FF.out.2.2 FF.out.1 (Kd.F_mono (F_old k30_heap HC2.out HB9.out) (fun _ _ => trivial)) hq2 HCq.out HLq.out (Kd.F_mono (F_old k30_heap HC0.out HB9.out) (fun _ _ => trivial)) hq0; rw [FZ.out.1] at hput; simp only [Option.getD_some, Option.isSome_some] at hput; refine hput.mono ?_; clear hput; rintro e w10 ⟨Az, cz, rfl, hlz, hFz, hb⟩; have HB10 := Aside0.mk (HB9.out.trans (hb.mono HB9.out.size)); have HFz := Aside0.mk hFz; have HLz := Aside0.mk hlz; have HCq10 := Aside0.mk (Kd.C_below HCq.out hb); have HU10 := Aside0.mk (Kd.C_below HU9.out hb); have w10d00 : (w10.alloc (.cells #[.int .i64 z1.f0, .slice Az z1.f1.length cz] 30)).cell? ⟨h1, 0, none⟩ = some (.int .i64 b.f0) := (blk_cell (blk_alloc (blk_below HX1.out HB10.out) _) 0).trans rfl; have w10d01 : (w10.alloc (.cells #[.int .i64 z1.f0, .slice Az z1.f1.length cz] 30)).cell? ⟨h1, 1, none⟩ = some (.slice X1 b.f1.length q1) := (blk_cell (blk_alloc (blk_below HX1.out HB10.out) _) 1).trans rfl; have w10d10 : (w10.alloc (.cells #[.int .i64 z1.f0, .slice Az z1.f1.length cz] 30)).cell? ⟨h2, 0, none⟩ = some (.int .i64 d.f0) := (blk_cell (blk_alloc (blk_below HX2.out HB10.out) _) 0).trans rfl; have w10d11 : (w10.alloc (.cells #[.int .i64 z1.f0, .slice Az z1.f1.length cz] 30)).cell? ⟨h2, 1, none⟩ = some (.slice X2 d.f1.length q2) := (blk_cell (blk_alloc (blk_below HX2.out HB10.out) _) 1).trans rfl; clear hb hFz hlz) | (go_at_call 23; refine (term_Places.calls _ _ _ d.f1 ls w8 (Kd.C_below HC2.out HB8.out) hq2 FP.out.1).mono ?_; rintro e w9 ⟨v0, rfl, hR, hb5⟩; obtain ⟨Al, cl, hv0⟩ := Kd.R_slice hR; subst hv0; obtain ⟨ad, cc, hAl, hcc0, hK, hcc⟩ := ReadsRow.get_ (Kd.R_reads' hR).2.2 [] (n % (ls.length : Int)) hj0 hj1; subst hAl; obtain ⟨Aq, cq, hce, hlq, hCq⟩ := hK; subst hce; rw [← FQ.out] at hcc hlq hCq; have hcell : w9.cell? (ad.add (n % (ls.length : Int)).toNat) = some (.slice Aq q.length cq) := (by have h9 := hcc 0 _ rfl; rw [show (Kd.slice 3 (Kd.int .i64)).sz = 1 from rfl, Nat.mul_one, Nat.add_zero] at h9; exact h9); have HCq := Aside0.mk hCq; have HLq := Aside0.mk hlq; have HB9 := Aside0.mk (HB8.out.trans (hb5.mono HB8.out.size)); have HU9 := Aside0.mk (Kd.C_below HU.out.2 hb5); have w9c00 : w9.cell? ⟨h0, 0, none⟩ = some (.int .i64 a.f0) := (blk_cell (blk_below HX0.out HB9.out) 0).trans rfl; have w9c01 : w9.cell? ⟨h0, 1, none⟩ = some (.slice X0 a.f1.length q0) := (blk_cell (blk_below HX0.out HB9.out) 1).trans rfl; have w9c10 : w9.cell? ⟨h2, 0, none⟩ = some (.int .i64 d.f0) := (blk_cell (blk_below HX2.out HB9.out) 0).trans rfl; have w9c11 : w9.cell? ⟨h2, 1, none⟩ = some (.slice X2 d.f1.length q2) := (blk_cell (blk_below HX2.out HB9.out) 1).trans rfl; clear hcc hR hCq hlq hcc0 hb5) | (go_at_call 52; refine (soriteslaw07_Of.calls ko _ _ s u w7 (hbS.out _ (HB6.out.trans (HB7.out.mono HB6.out.size))) hcs FO.out.1).mono ?_; rintro e w8 ⟨v0, rfl, hR, hb⟩; obtain ⟨Au, cu, hv0⟩ := Kd.R_slice hR; subst hv0; have HU := Aside0.mk (Kd.R_reads' hR).2; have HB8 := Aside0.mk (HB7.out.trans (hb.mono HB7.out.size)); have w8c00 : w8.cell? ⟨h2, 0, none⟩ = some (.int .i64 d.f0) := (blk_cell (blk_below HX2.out HB8.out) 0).trans rfl; have w8c01 : w8.cell? ⟨h2, 1, none⟩ = some (.slice X2 d.f1.length q2) := (blk_cell (blk_below HX2.out HB8.out) 1).trans rfl; clear hb hR) | (go_at_call 43; refine (kbo_Compare.calls k1 _ _ _ a.f1 _ _ _ b.f1 k w6 HC0.out hq0 HC1.out hq1 FC.out).mono ?_; rintro e w7 ⟨rfl, hb⟩; have HB7 := Aside0.mk (show Below w6.heap.size w6 w7 from hb); clear hb))
  have hb12 := below_alloc HB11.out (.cells #[.int .i64 z2.f0, .slice Av z2.f1.length cv] 30)
  have hbv := heap_alloc_new w11 (.cells #[.int .i64 z2.f0, .slice Av z2.f1.length cv] 30)
  have hbz := blk_below (heap_alloc_new w10 (.cells #[.int .i64 z1.f0, .slice Az z1.f1.length cz] 30)) hb12
  have hCv := Kd.C_below (Kd.F_now HFv.out) (below_alloc (Below.refl _ _) (.cells #[.int .i64 z2.f0, .slice Av z2.f1.length cv] 30))
  have hCz := Kd.C_below (Kd.C_below (Kd.F_now HFz.out) (below_alloc (Below.refl _ _) (.cells #[.int .i64 z1.f0, .slice Az z1.f1.length cz] 30))) hb12
  have hb612 : Below w6.heap.size w6 (w11.alloc (.cells #[.int .i64 z2.f0, .slice Av z2.f1.length cv] 30)) := (below_alloc HB10.out (.cells #[.int .i64 z1.f0, .slice Az z1.f1.length cz] 30)).trans (hb12.mono (Nat.le_trans HB10.out.size (by simp)))
  have hCu := Kd.C_below (Kd.C_below HU10.out (below_alloc (Below.refl _ _) (.cells #[.int .i64 z1.f0, .slice Az z1.f1.length cz] 30))) hb12
  obtain ⟨w12, hw12⟩ : ∃ x, x = w11.alloc (.cells #[.int .i64 z2.f0, .slice Av z2.f1.length cv] 30) := ⟨_, rfl⟩
  rw [← hw12] at hb12 hbv hbz hCv hCz hb612 hCu ⊢
  have hC0' := Kd.C_below HC0.out hb612
  have hC1' := Kd.C_below HC1.out hb612
  have hsT := FX.out.2.2.2.2 HK.out
  have eXY := FX.out.2.2.1
  rw [hsT] at eXY
  have FE := Aside0.mk eXY
  clear hw12 hb12 hj0 hj1 hl0 hcell hsT eXY
  have HB12 := Aside0.mk hb612
  refine KboStable_r14 (ga := h0) (gb := h1) (k := k) (rf := ax.f0) (rs := ax.f1) (sf := bx.f0) (ss := bx.f1) (by kernel_rfl) rfl rfl rfl (blk_below HX0.out hb612) rfl (blk_below HX1.out hb612) rfl hbz rfl hbv ?_ ?_ ?_ ?_ ?_
  · intro w1 hb; exact (subst_Apply.calls kx _ _ u _ _ _ a.f1 _ _ w1 (Kd.C_below hCu hb) HU.out.1 (Kd.C_below hC0' hb) hq0 FX.out.1).mono (fun e w2 ⟨v1, h1, h2, h3⟩ => ⟨_, h1, TermTold.of h2, h3⟩)
  · intro w1 hb; exact (subst_Apply.calls ky _ _ u _ _ _ b.f1 _ _ w1 (Kd.C_below hCu hb) HU.out.1 (Kd.C_below hC1' hb) hq1 FX.out.2.1).mono (fun e w2 ⟨v1, h1, h2, h3⟩ => ⟨_, h1, TermTold.of h2, h3⟩)
  · intro w1 hb; exact kbo_Compare.calls k2 _ _ _ z1.f1 _ _ _ z2.f1 _ w1 (Kd.C_below hCz hb) HLz.out (Kd.C_below hCv hb) HLv.out FX.out.2.2.2.1
  · intro w1 A1 B1 c1 d1 hb hl1 hC1 hl2 hC2; exact kbo_Compare.calls kxy _ _ _ ax.f1 _ _ _ bx.f1 k w1 hC1 hl1 hC2 hl2 FE.out
  intro v w13 hb13 hv16
  simp only [layL, Nat.reduceAdd, List.setIfInBounds_toArray, List.set_cons_zero, List.set_cons_succ, hv16]
  clear hv16
  have HB13 := Aside0.mk ((HB6.out.trans (HB12.out.mono HB6.out.size)).trans (hb13.mono (Nat.le_trans HB6.out.size HB12.out.size)))
  clear hb13 hbv hbz hCv hCz hb612 hCu hC0' hC1' FX FE
  generalize v 0 = t0
  generalize v 1 = t1
  generalize v 2 = t2
  generalize v 3 = t3
  generalize v 4 = t4
  generalize v 5 = t5
  generalize v 6 = t6
  generalize v 7 = t7
  generalize v 8 = t8
  generalize v 9 = t9
  generalize v 10 = t10
  generalize v 11 = t11
  generalize v 12 = t12
  generalize v 13 = t13
  generalize v 14 = t14
  generalize v 15 = t15
  clear v
  go_wp2
  go_ret
  exact ⟨rfl, HB13.out⟩
end Go.Proofs.Ytpfddihcikiofaa.P
end

section
namespace Go.Proofs.Ytpfddihcikiofaa.kboStable
open Go.ChangeShapes Go.WideShapes Go.ChangeAt Go.RowKit
set_option linter.unusedVariables false
theorem own : ownKnob Try.prog.godebug = none := by kernel_rfl
theorem laidOut : laidOutB Try.prog = true := by kernel_rfl
set_option maxRecDepth 100000 in
theorem lifted (os : Os) (started : os.Started) (H : Type) (enc : TypeId × Value → H) :
    ReturnsInHanded {} Try.checked os 14 .any (Rows.kboStableSpec.pre6 enc Try.prog Try.f14 Rows.kboStableRow.domain false) (Rows.kboStableSpec.post enc Try.prog Try.f14 false true false false) := by
  refine returnsInHanded_of_change_sized (C := Try.checked) own started (by kernel_rfl) Try.func14
    (ChangeSpec.witness6 (enc := enc) (C := Try.checked) false ⟨#[], #[.agg #[.int .i64 0, .slice none 0 0], .agg #[.int .i64 0, .slice none 0 0], .agg #[.int .i64 0, .slice none 0 0], .slice none 0 0, .int .u8 0], []⟩ 8 (by kernel_rfl) (by kernel_rfl) (by kernel_rfl) (by kernel_rfl)) ?_
  intro W base args ds gs before hval0 hW hcnd hsz0 _
  have hval : ∀ (j : Nat) t v, Try.f14.params[j]? = some t → args[j]? = some v → Value.okWide Try.prog W .any base t v := hval0
  have hW' := hW
  obtain ⟨p, q, hA0, hV, rfl, hfz, hnd⟩ := hW
  have hA : DataW.TrodAll enc Try.prog W 0 (fun _ => true) true Try.f14.params.toList args.toList ds p := hA0
  rw [Try.params14] at hA hval
  obtain ⟨v0, vs0, d0, ds0, p0, q0, hargs, rfl, rfl, h0, r0⟩ := trodAll_cons hA
  obtain ⟨v1, vs1, d1, ds1, p1, q1, rfl, rfl, rfl, h1, r1⟩ := trodAll_cons r0
  obtain ⟨v2, vs2, d2, ds2, p2, q2, rfl, rfl, rfl, h2, r2⟩ := trodAll_cons r1
  obtain ⟨v3, vs3, d3, ds3, p3, q3, rfl, rfl, rfl, h3, r3⟩ := trodAll_cons r2
  obtain ⟨v4, vs4, d4, ds4, p4, q4, rfl, rfl, rfl, h4, r4⟩ := trodAll_cons r3
  obtain ⟨rfl, rfl, rfl⟩ := trodAll_nil r4
  obtain rfl : args = #[v0, v1, v2, v3, v4] := by cases args; simp_all
  obtain ⟨rfl, rfl⟩ := trodVars_none hV
  have k0 := h0
  have lt0 : ∀ x ∈ p0, x.block < W.heap.size := by obtain ⟨m, hm⟩ := k0; exact DataW.trod_lt m _ _ _ hm
  obtain ⟨t0, A0, c0, rfl, hc0, hC0, hw0⟩ := P.open_T (hval 0 24 v0 rfl rfl) h0
  have k1 := h1
  have lt1 : ∀ x ∈ p1, x.block < W.heap.size := by obtain ⟨m, hm⟩ := k1; exact DataW.trod_lt m _ _ _ hm
  obtain ⟨t1, A1, c1, rfl, hc1, hC1, hw1⟩ := P.open_T (hval 1 24 v1 rfl rfl) h1
  have k2 := h2
  have lt2 : ∀ x ∈ p2, x.block < W.heap.size := by obtain ⟨m, hm⟩ := k2; exact DataW.trod_lt m _ _ _ hm
  obtain ⟨t2, A2, c2, rfl, hc2, hC2, hw2⟩ := P.open_T (hval 2 24 v2 rfl rfl) h2
  have k3 := h3
  have lt3 : ∀ x ∈ p3, x.block < W.heap.size := by obtain ⟨m, hm⟩ := k3; exact DataW.trod_lt m _ _ _ hm
  obtain ⟨t3, A3, c3, rfl, hc3, hC3⟩ := P.open_Bs (hval 3 59 v3 rfl rfl) h3
  obtain ⟨a4, rfl, rfl, rfl, w4⟩ := open_int Try.underlying5 (hval 4 5 v4 rfl rfl) h4
  clear hA0 hval0 hsz0
  refine (P.KboStable_walk t0 t1 t2 t3 a4 A0 c0 A1 c1 A2 c2 A3 c3 W (by have := w4; simp [Lit.wf, IntKind.min, IntKind.max, IntKind.signed, IntKind.bits] at this; omega) hC0 hc0 hC1 hc1 hC2 hc2 hC3 hc3).mono fun e W' ⟨he, bel⟩ => ?_
  subst he
  exact ⟨_, rfl, _, _, _, [], _, [], hW', trodAll_mk1 (shut_bool Try.underlying4 _), (trodAll_cons_mk (Below.trod laidOut (by kernel_rfl) (of_decide_eq_true (by kernel_rfl)) k0 bel lt0) (trodAll_cons_mk (Below.trod laidOut (by kernel_rfl) (of_decide_eq_true (by kernel_rfl)) k1 bel lt1) (trodAll_cons_mk (Below.trod laidOut (by kernel_rfl) (of_decide_eq_true (by kernel_rfl)) k2 bel lt2) (trodAll_cons_mk (Below.trod laidOut (by kernel_rfl) (of_decide_eq_true (by kernel_rfl)) k3 bel lt3) (trodAll_cons_mk (shut_int Try.underlying5 w4) trodAll_mk0))))), rfl, bel.frame _, fun h => by cases h⟩
theorem over : Rows.kboStableRow.holds Try.pinned (OpenSpec.ofChange Rows.kboStableSpec) :=
  OpenClaim.holds_of_wide 14 Try.f14 rfl rfl rfl rfl rfl rfl rfl ⟨rfl, rfl, rfl, rfl, rfl⟩ rfl rfl rfl rfl rfl (by kernel_rfl) Try.func14 (by kernel_rfl)
    (of_decide_eq_true (by kernel_rfl)) (by unfold Func.isWrapper; first | (rw [if_pos (by decide +kernel)]; kernel_rfl) | (rw [if_neg (by decide +kernel)]; exact ⟨rfl, rfl⟩))
    (fun os started H enc _ => lifted os started H enc)
end Go.Proofs.Ytpfddihcikiofaa.kboStable
namespace Go.Proofs.Ytpfddihcikiofaa
theorem kboStable_holds : Rows.KboStableSaid := kboStable.over
#print axioms kboStable_holds
end Go.Proofs.Ytpfddihcikiofaa
end
