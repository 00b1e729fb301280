/- The law KboTells holds of every input. Part 5 of 5: PxKboGreater, PxKboCompare, PxSoriteslaw10Alive, GSpec10, GKboTells, LawKboTells. -/
import Derived.Test.YtpfddihcikiofaaZKboTells2
import Derived.Test.YtpfddihcikiofaaZKboTells3
import Derived.Test.YtpfddihcikiofaaZKboTells4
import Derived.Test.YtpfddihcikiofaaRows
import Derived.WalkKit
import Derived.ProofKit
import Derived.OpenShut
import Derived.ShutString
import Derived.ChangeOld
import Derived.Below
import Derived.SizedLaws
import Derived.Test.YtpfddihcikiofaaZKboTells1
section
namespace Go.Proofs.Ytpfddihcikiofaa.P
open Go.RowKit Go.Proofs.YtpfddihcikiofaaW.PrintWords Go.Proofs.YtpfddihcikiofaaW.PrintLast Go.Proofs.YtpfddihcikiofaaW.PrintMore
attribute [local go_sem] max2_int min2_int max_two min_two max_three min_three max_four min_four
set_option linter.unusedVariables false
set_option linter.unusedSimpArgs false
mutual
def kbo_Greater.j0 : Nat → Bool → Int → List (S30) → Int → List (S30) → Option (Bool)
  | 0, _, _, _, _, _ => none
  | k + 1, x29, x267000, x267001, x268000, x268001 => if x29 = true then (some false) else ((cmp_Compare_int.f x267000 x268000).bind fun t272 => ((cmp_Compare_int.f (x267001.length : Int) (x268001.length : Int)).bind fun t273 => ((cmp_Or_int.f k (([t272, t273] : List Int))).bind fun t277 => (if t277 = 0 then (kbo_Greater.l0 k x267001 (x267001.length : Int) 0 x268000 x268001) else (some (decide (t277 > 0)))))))
def kbo_Greater.l0 : Nat → List (S30) → Int → Int → Int → List (S30) → Option (Bool)
  | 0, _, _, _, _, _ => none
  | k + 1, x49, x50, x51, x268000, x268001 => if x51 < x50 then (if 0 ≤ x51 then (if x51 < (x49.length : Int) then (if x51 < (x268001.length : Int) then ((term_Same.f ((rd_T30 x49 x51).f0) ((rd_T30 x49 x51).f1) ((rd_T30 x268001 x51).f0) ((rd_T30 x268001 x51).f1)).bind fun t281 => (if t281 = true then (kbo_Greater.l0 k x49 x50 (wrap64 (x51 + 1)) x268000 x268001) else ((kbo_Greater.f k ((rd_T30 x49 x51).f0) ((rd_T30 x49 x51).f1) ((rd_T30 x268001 x51).f0) ((rd_T30 x268001 x51).f1)).bind fun t283 => (some t283)))) else (none)) else (none)) else (none)) else (some false)
def kbo_Greater.f : Nat → Int → List (S30) → Int → List (S30) → Option (Bool)
  | 0, _, _, _, _ => none
  | k + 1, a0_0, l0_1, a1_0, l1_1 => (kbo_Covers.f a0_0 l0_1 a1_0 l1_1).bind fun t268 => (if t268 = true then ((term_Size.f a0_0 l0_1).bind fun t269 => ((term_Size.f a1_0 l1_1).bind fun t270 => ((cmp_Compare_int.f t269 t270).bind fun t271 => (if t271 = 0 then (if a0_0 < 0 then (kbo_Greater.j0 k true a0_0 l0_1 a1_0 l1_1) else (kbo_Greater.j0 k (decide (a1_0 < 0)) a0_0 l0_1 a1_0 l1_1)) else (some (decide (t271 > 0))))))) else (some false))
end
def kbo_Greater.T8 : Bool × List (List Nat × List Nat) := (true, [([], []), ([0], [0]), ([], []), ([2], [2]), ([1, 3], [1, 3]), ([], []), ([5], [5]), ([6], [6]), ([], []), ([8], [8]), ([9], [9]), ([7, 10, 4], [7, 10]), ([4, 11], [4, 11]), ([12, 11], [12]), ([13, 13, 0, 1, 2, 3, 4, 5, 6, 7, 8, 9, 10, 11, 12, 13], [13])])
def kbo_Greater.B8 : List Nat := [0, 1, 0, 4, 15, 0, 32, 96, 0, 256, 768, 2047, 4095, 8191, 16383]
theorem kbo_Greater.tab8 : rtab .any (opsOf Try.f41 8) = kbo_Greater.T8 := by kernel_rfl
theorem kbo_Greater.bits8 : waitsOk kbo_Greater.T8.2 kbo_Greater.B8 = true := by kernel_rfl
def kbo_Greater.T14 : Bool × List (List Nat × List Nat) := (true, [([], []), ([], []), ([1], [1]), ([], []), ([2, 3], [2, 3]), ([4], [4]), ([0, 5], [0, 5]), ([6], [6])])
def kbo_Greater.B14 : List Nat := [0, 0, 2, 0, 14, 30, 63, 127]
theorem kbo_Greater.tab14 : rtab .any (opsOf Try.f41 14) = kbo_Greater.T14 := by kernel_rfl
theorem kbo_Greater.bits14 : waitsOk kbo_Greater.T14.2 kbo_Greater.B14 = true := by kernel_rfl
def kbo_Greater.T15 : Bool × List (List Nat × List Nat) := (true, [([], []), ([], []), ([1], [1]), ([], []), ([2, 3], [2, 3]), ([4], [4]), ([0, 5], [0, 5]), ([6, 6, 0, 1, 2, 3, 4, 5, 6], [6])])
def kbo_Greater.B15 : List Nat := [0, 0, 2, 0, 14, 30, 63, 127]
theorem kbo_Greater.tab15 : rtab .any (opsOf Try.f41 15) = kbo_Greater.T15 := by kernel_rfl
theorem kbo_Greater.bits15 : waitsOk kbo_Greater.T15.2 kbo_Greater.B15 = true := by kernel_rfl
set_option maxHeartbeats 8000000 in
set_option maxRecDepth 100000 in
theorem kbo_Greater.calls (k : Nat) : ∀ (a0_0 : Int) (A0_1 : Option Addr) (c0_1 : Nat) (l0_1 : List (S30)) (a1_0 : Int) (A1_1 : Option Addr) (c1_1 : Nat) (l1_1 : List (S30)) (r : Bool) (w : World) (hr0_1 : Kd.C k30 w A0_1 l0_1.length l0_1) (hc0_1 : l0_1.length ≤ c0_1) (hr1_1 : Kd.C k30 w A1_1 l1_1.length l1_1) (hc1_1 : l1_1.length ≤ c1_1) (h : kbo_Greater.f k a0_0 l0_1 a1_0 l1_1 = some r),
    Calls Try.prog 41 #[.agg #[.int .i64 a0_0, .slice A0_1 l0_1.length c0_1], .agg #[.int .i64 a1_0, .slice A1_1 l1_1.length c1_1]] w fun e w' => e = .returned (.bool r) ∧ Below w.heap.size w w' := by
  induction k using Nat.strongRecOn with
  | _ k ih =>
  intro a0_0 A0_1 c0_1 l0_1 a1_0 A1_1 c1_1 l1_1 r w hr0_1 hc0_1 hr1_1 hc1_1 h
  cases k with
  | zero => exact absurd h (by simp [kbo_Greater.f])
  | succ k =>
  simp only [kbo_Greater.f] at h
  have hu30 := Try.underlying30
  have HR0_1 := Aside0.mk hr0_1
  have HC0_1 := Aside0.mk hc0_1
  clear hr0_1 hc0_1
  have HR1_1 := Aside0.mk hr1_1
  have HC1_1 := Aside0.mk hc1_1
  clear hr1_1 hc1_1
  have HB := Aside0.mk (Below.refl w.heap.size w)
  have H : ((kbo_Covers.f a0_0 l0_1 a1_0 l1_1).bind fun t268 => (if t268 = true then ((term_Size.f a0_0 l0_1).bind fun t269 => ((term_Size.f a1_0 l1_1).bind fun t270 => ((cmp_Compare_int.f t269 t270).bind fun t271 => (if t271 = 0 then (if a0_0 < 0 then (kbo_Greater.j0 k true a0_0 l0_1 a1_0 l1_1) else (kbo_Greater.j0 k (decide (a1_0 < 0)) a0_0 l0_1 a1_0 l1_1)) else (some (decide (t271 > 0))))))) else (some false))) = some r := h
  clear h
  replace H := Option.bind_eq_some_iff.mp H
  obtain ⟨t268, A30, H⟩ := H
  replace H : (if t268 = true then ((term_Size.f a0_0 l0_1).bind fun t269 => ((term_Size.f a1_0 l1_1).bind fun t270 => ((cmp_Compare_int.f t269 t270).bind fun t271 => (if t271 = 0 then (if a0_0 < 0 then (kbo_Greater.j0 k true a0_0 l0_1 a1_0 l1_1) else (kbo_Greater.j0 k (decide (a1_0 < 0)) a0_0 l0_1 a1_0 l1_1)) else (some (decide (t271 > 0))))))) else (some false)) = some r := H
  have A3 := Aside0.mk A30
  clear A30
  by_cases c4 : t268 = true
  · subst c4
    have H1 : ((term_Size.f a0_0 l0_1).bind fun t269 => ((term_Size.f a1_0 l1_1).bind fun t270 => ((cmp_Compare_int.f t269 t270).bind fun t271 => (if t271 = 0 then (if a0_0 < 0 then (kbo_Greater.j0 k true a0_0 l0_1 a1_0 l1_1) else (kbo_Greater.j0 k (decide (a1_0 < 0)) a0_0 l0_1 a1_0 l1_1)) else (some (decide (t271 > 0))))))) = some r := by rw [if_pos rfl] at H; exact H
    clear H
    have H := H1
    clear H1
    replace H := Option.bind_eq_some_iff.mp H
    obtain ⟨t269, A50, H⟩ := H
    replace H : ((term_Size.f a1_0 l1_1).bind fun t270 => ((cmp_Compare_int.f t269 t270).bind fun t271 => (if t271 = 0 then (if a0_0 < 0 then (kbo_Greater.j0 k true a0_0 l0_1 a1_0 l1_1) else (kbo_Greater.j0 k (decide (a1_0 < 0)) a0_0 l0_1 a1_0 l1_1)) else (some (decide (t271 > 0)))))) = some r := H
    have A5 := Aside0.mk A50
    clear A50
    replace H := Option.bind_eq_some_iff.mp H
    obtain ⟨t270, A60, H⟩ := H
    replace H : ((cmp_Compare_int.f t269 t270).bind fun t271 => (if t271 = 0 then (if a0_0 < 0 then (kbo_Greater.j0 k true a0_0 l0_1 a1_0 l1_1) else (kbo_Greater.j0 k (decide (a1_0 < 0)) a0_0 l0_1 a1_0 l1_1)) else (some (decide (t271 > 0))))) = some r := H
    have A6 := Aside0.mk A60
    clear A60
    replace H := Option.bind_eq_some_iff.mp H
    obtain ⟨t271, A70, H⟩ := H
    replace H : (if t271 = 0 then (if a0_0 < 0 then (kbo_Greater.j0 k true a0_0 l0_1 a1_0 l1_1) else (kbo_Greater.j0 k (decide (a1_0 < 0)) a0_0 l0_1 a1_0 l1_1)) else (some (decide (t271 > 0)))) = some r := H
    have A7 := Aside0.mk A70
    clear A70
    by_cases c8 : t271 = 0
    · rw [if_pos c8] at H
      have c8b0 : (t271 == 0) = true := beq_iff_eq.mpr c8
      have c8b1 : (t271 != 0) = false := bne_eq_false_iff_eq.mpr c8
      clear c8
      have HC9 := Aside0.mk H
      clear H
      go_enter Try.func41, Try.ntmps41
      try go_wp2_with (first | ((with_reducible refine gate_dst (N := 2) rfl ?_); refine box_event ?hg (N := 2) ?hd (cs := #[.int .i64 a0_0, .slice A0_1 l0_1.length c0_1]) (t := 30) ?hr ?_; (case hd => rfl); (case hg => rfl); (case hr => first | (go_simp; done) | (go_simp; rfl)); intro gb266 hg w10 hbox hb; have n0_ := Aside0.mk (below_step (by repeat (first | (with_reducible first | exact HB.out | apply below_alloc | apply pw_below_drewN | apply below_drew1) | exact HB.out)) hb); have n1_ := Aside0.mk (hbox); have n2_ := Aside0.mk ((by rw [hg]; exact (below_size (by repeat (first | (with_reducible first | exact HB.out | apply below_alloc | apply pw_below_drewN | apply below_drew1) | exact HB.out))) : w.heap.size ≤ gb266)); have n3_ := Aside0.mk ((by rw [hg]; exact (below_size (by repeat (first | (with_reducible first | exact HB.out | apply below_alloc | apply pw_below_drewN | apply below_drew1) | exact HB.out))) : w.heap.size ≤ gb266)); clear HB; have HB := n0_; have BK266 := n1_; have GW266 := n2_; have GE266 := n3_; clear n0_ n1_ n2_ n3_; clear hb hbox hg) | ((with_reducible refine gate_dst (N := 3) rfl ?_); refine box_event ?hg (N := 3) ?hd (cs := #[.int .i64 a1_0, .slice A1_1 l1_1.length c1_1]) (t := 30) ?hr ?_; (case hd => rfl); (case hg => rfl); (case hr => first | (go_simp; done) | (go_simp; rfl)); intro gb267 hg w11 hbox hb; have n0_ := Aside0.mk (blk_below (g := gb266) (o := .cells #[.int .i64 a0_0, .slice A0_1 l0_1.length c0_1] 30 (0, 0)) (by (with_reducible repeat (first | refine blk_drewN ?_ _ | refine blk_drew ?_ | refine blk_alloc ?_ _)); exact BK266.out) hb); have n1_ := Aside0.mk (below_step (by repeat (first | (with_reducible first | exact HB.out | apply below_alloc | apply pw_below_drewN | apply below_drew1 | refine below_set ?_ GE266.out) | exact HB.out)) hb); have n2_ := Aside0.mk (hbox); have n3_ := Aside0.mk ((by rw [hg]; exact (below_size (by repeat (first | (with_reducible first | exact HB.out | apply below_alloc | apply pw_below_drewN | apply below_drew1 | refine below_set ?_ GE266.out) | exact HB.out))) : w.heap.size ≤ gb267)); have n4_ := Aside0.mk ((by rw [hg]; exact (below_size (by repeat (first | (with_reducible first | exact HB.out | apply below_alloc | apply pw_below_drewN | apply below_drew1 | refine below_set ?_ GE266.out) | exact HB.out))) : w.heap.size ≤ gb267)); have n5_ := Aside0.mk ((by rw [hg]; exact Nat.ne_of_lt (blk_lt (g := gb266) (o := .cells #[.int .i64 a0_0, .slice A0_1 l0_1.length c0_1] 30 (0, 0)) (by (with_reducible repeat (first | refine blk_drewN ?_ _ | refine blk_drew ?_ | refine blk_alloc ?_ _)); exact BK266.out)) : gb266 ≠ gb267)); have n6_ := Aside0.mk ((by rw [hg]; exact Nat.ne_of_gt (blk_lt (g := gb266) (o := .cells #[.int .i64 a0_0, .slice A0_1 l0_1.length c0_1] 30 (0, 0)) (by (with_reducible repeat (first | refine blk_drewN ?_ _ | refine blk_drew ?_ | refine blk_alloc ?_ _)); exact BK266.out)) : gb267 ≠ gb266)); clear BK266; clear HB; have BK266 := n0_; have HB := n1_; have BK267 := n2_; have GW267 := n3_; have GE267 := n4_; have NB266_267 := n5_; have NB267_266 := n6_; clear n0_ n1_ n2_ n3_ n4_ n5_ n6_; clear hb hbox hg; have hnb12 := NB266_267.out; have hnc12 := NB267_266.out; have hcz13_0 : w11.cell? ⟨gb266, 0, none⟩ = some (.int .i64 a0_0) := (blk_cell BK266.out 0).trans rfl; have hcz13_1 : w11.cell? ⟨gb266, 1, none⟩ = some (.slice A0_1 l0_1.length c0_1) := (blk_cell BK266.out 1).trans rfl; have hfz13_0 := blk_frozen BK266.out 0; have hfz13_1 := blk_frozen BK266.out 1; have hcz14_0 : w11.cell? ⟨gb267, 0, none⟩ = some (.int .i64 a1_0) := (blk_cell BK267.out 0).trans rfl; have hcz14_1 : w11.cell? ⟨gb267, 1, none⟩ = some (.slice A1_1 l1_1.length c1_1) := (blk_cell BK267.out 1).trans rfl; have hfz14_0 := blk_frozen BK267.out 0; have hfz14_1 := blk_frozen BK267.out 1) | ((with_reducible refine gate_callee (f := 45) rfl ?_); refine goesL_ (some 11) rfl rfl Try.func45 (by kernel_rfl) rfl #[.agg #[.int .i64 a0_0, .slice A0_1 l0_1.length c0_1], .agg #[.int .i64 a1_0, .slice A1_1 l1_1.length c1_1]] rfl (by (try simp only [List.map_toArray, List.map_cons, List.map_nil]); first | done | rfl | (simp only [List.length_drop, List.length_take]; rfl)) ?_; (with_reducible refine (kbo_Covers.calls a0_0 _ _ l0_1 a1_0 _ _ l1_1 true _ ?side1 ?side2 ?side3 ?side4 A3.out).mono ?_); (case side1 => repeat (first | exact (Kd.C_below HR0_1.out HB.out) | (with_reducible refine Kd.C_alloc ?_ _) | (with_reducible refine Kd.C_drewN ?_ _) | (with_reducible refine Kd.C_drew ?_))); (case side2 => exact HC0_1.out); (case side3 => repeat (first | exact (Kd.C_below HR1_1.out HB.out) | (with_reducible refine Kd.C_alloc ?_ _) | (with_reducible refine Kd.C_drewN ?_ _) | (with_reducible refine Kd.C_drew ?_))); (case side4 => exact HC1_1.out); rintro e w15 ⟨rfl, hb⟩; refine ⟨_, rfl, ?_⟩; have n0_ := Aside0.mk (blk_below (g := gb266) (o := .cells #[.int .i64 a0_0, .slice A0_1 l0_1.length c0_1] 30 (0, 0)) (by (with_reducible repeat (first | refine blk_drewN ?_ _ | refine blk_drew ?_ | refine blk_alloc ?_ _)); exact BK266.out) hb); have n1_ := Aside0.mk (blk_below (g := gb267) (o := .cells #[.int .i64 a1_0, .slice A1_1 l1_1.length c1_1] 30 (0, 0)) (by (with_reducible repeat (first | refine blk_drewN ?_ _ | refine blk_drew ?_ | refine blk_alloc ?_ _)); exact BK267.out) hb); have n2_ := Aside0.mk (below_step (by repeat (first | (with_reducible first | exact HB.out | apply below_alloc | apply pw_below_drewN | apply below_drew1 | refine below_set ?_ GE266.out | refine below_set ?_ GE267.out) | exact HB.out)) hb); clear BK266; clear BK267; clear HB; have BK266 := n0_; have BK267 := n1_; have HB := n2_; clear n0_ n1_ n2_; (try clear hb); (try clear hb2); (try clear hk); (try clear hi)))
      have n0_ := Aside0.mk (blk_drew BK266.out)
      have n1_ := Aside0.mk (blk_drew BK267.out)
      have n2_ := Aside0.mk (below_drew1 HB.out)
      clear BK266
      clear BK267
      clear HB
      have BK266 := n0_
      have BK267 := n1_
      have HB := n2_
      clear n0_ n1_ n2_
      refine start_ (n := 6) (S := fun w' => w'.cell? ⟨gb266, 0, none⟩ = some (.int .i64 a0_0) ∧ w'.cell? ⟨gb266, 1, none⟩ = some (.slice A0_1 l0_1.length c0_1) ∧ w'.cell? ⟨gb267, 0, none⟩ = some (.int .i64 a1_0) ∧ w'.cell? ⟨gb267, 1, none⟩ = some (.slice A1_1 l1_1.length c1_1)) (ds := []) #[false, false, false, false, false, false] (by kernel_rfl) rfl rfl ⟨(blk_cell BK266.out 0).trans rfl, (blk_cell BK266.out 1).trans rfl, (blk_cell BK267.out 0).trans rfl, (blk_cell BK267.out 1).trans rfl⟩ (fun hHeld => ?_)
      generalize w15.drew = w16 at BK266 BK267 HB hHeld ⊢
      refine take_ (i := 0) (N := some 13) (v := ?_) (a' := ?_) #[true, false, false, false, false, false] rfl rfl (by kernel_rfl) (fun _ _ _ h => h) (Or.inl ⟨by rfl, ?_⟩) hHeld ?_ ?_
      rotate_left
      · rintro w' ⟨s0, s1, s2, s3⟩
        go_simp
        with_reducible rfl
      rotate_left
      · simp only [Act.put, List.setIfInBounds_toArray, List.set_cons_zero, List.set_cons_succ, i64_w, i32_w]
        rfl
      refine take_ (i := 2) (N := some 15) (v := ?_) (a' := ?_) #[true, false, true, false, false, false] rfl rfl (by kernel_rfl) (fun _ _ _ h => h) (Or.inl ⟨by rfl, ?_⟩) hHeld ?_ ?_
      rotate_left
      · rintro w' ⟨s0, s1, s2, s3⟩
        go_simp
        with_reducible rfl
      rotate_left
      · simp only [Act.put, List.setIfInBounds_toArray, List.set_cons_zero, List.set_cons_succ, i64_w, i32_w]
        rfl
      refine one_ (i := 1) (N := some 14) #[true, true, true, false, false, false] rfl rfl (by kernel_rfl) (by decide) (fun K hK => ?_)
      refine goes_ Try.func34 (by kernel_rfl) rfl #[.agg #[.int .i64 a0_0, .slice A0_1 l0_1.length c0_1]] (by rfl) rfl rfl (by (try simp only [List.map_toArray, List.map_cons, List.map_nil]); first | done | rfl | (simp only [List.length_drop, List.length_take]; rfl)) ?_
      with_reducible refine (term_Size.calls a0_0 _ _ l0_1 t269 _ ?side1 ?side2 A5.out).mono ?_
      (case side1 => repeat (first | exact (Kd.C_below HR0_1.out HB.out) | (with_reducible refine Kd.C_alloc ?_ _) | (with_reducible refine Kd.C_drewN ?_ _) | (with_reducible refine Kd.C_drew ?_)))
      (case side2 => exact HC0_1.out)
      rintro e w17 ⟨rfl, hb⟩
      refine ⟨_, rfl, ?_⟩
      have n0_ := Aside0.mk (blk_below (g := gb266) (o := .cells #[.int .i64 a0_0, .slice A0_1 l0_1.length c0_1] 30 (0, 0)) (by (with_reducible repeat (first | refine blk_drewN ?_ _ | refine blk_drew ?_ | refine blk_alloc ?_ _)); exact BK266.out) hb)
      have n1_ := Aside0.mk (blk_below (g := gb267) (o := .cells #[.int .i64 a1_0, .slice A1_1 l1_1.length c1_1] 30 (0, 0)) (by (with_reducible repeat (first | refine blk_drewN ?_ _ | refine blk_drew ?_ | refine blk_alloc ?_ _)); exact BK267.out) hb)
      have n2_ := Aside0.mk (below_step (by repeat (first | (with_reducible first | exact HB.out | apply below_alloc | apply pw_below_drewN | apply below_drew1 | refine below_set ?_ GE266.out | refine below_set ?_ GE267.out) | exact HB.out)) hb)
      clear BK266
      clear BK267
      clear HB
      have BK266 := n0_
      have BK267 := n1_
      have HB := n2_
      clear n0_ n1_ n2_
      (try clear hb)
      (try clear hb2)
      (try clear hk)
      (try clear hi)
      refine hK.out _ _ ⟨(blk_cell BK266.out 0).trans rfl, (blk_cell BK266.out 1).trans rfl, (blk_cell BK267.out 0).trans rfl, (blk_cell BK267.out 1).trans rfl⟩ (fun hHeld => ?_)
      clear hK K
      refine norm_ (a' := ?_) ?_ ?_
      rotate_left
      · show Act.put _ (some 14) _ = _
        simp only [Act.put, List.setIfInBounds_toArray, List.set_cons_zero, List.set_cons_succ, i64_w, i32_w]
        rfl
      refine one_ (i := 3) (N := some 16) #[true, true, true, true, false, false] rfl rfl (by kernel_rfl) (by decide) (fun K hK => ?_)
      refine goes_ Try.func34 (by kernel_rfl) rfl #[.agg #[.int .i64 a1_0, .slice A1_1 l1_1.length c1_1]] (by rfl) rfl rfl (by (try simp only [List.map_toArray, List.map_cons, List.map_nil]); first | done | rfl | (simp only [List.length_drop, List.length_take]; rfl)) ?_
      with_reducible refine (term_Size.calls a1_0 _ _ l1_1 t270 _ ?side1 ?side2 A6.out).mono ?_
      (case side1 => repeat (first | exact (Kd.C_below HR1_1.out HB.out) | (with_reducible refine Kd.C_alloc ?_ _) | (with_reducible refine Kd.C_drewN ?_ _) | (with_reducible refine Kd.C_drew ?_)))
      (case side2 => exact HC1_1.out)
      rintro e w18 ⟨rfl, hb⟩
      refine ⟨_, rfl, ?_⟩
      have n0_ := Aside0.mk (blk_below (g := gb266) (o := .cells #[.int .i64 a0_0, .slice A0_1 l0_1.length c0_1] 30 (0, 0)) (by (with_reducible repeat (first | refine blk_drewN ?_ _ | refine blk_drew ?_ | refine blk_alloc ?_ _)); exact BK266.out) hb)
      have n1_ := Aside0.mk (blk_below (g := gb267) (o := .cells #[.int .i64 a1_0, .slice A1_1 l1_1.length c1_1] 30 (0, 0)) (by (with_reducible repeat (first | refine blk_drewN ?_ _ | refine blk_drew ?_ | refine blk_alloc ?_ _)); exact BK267.out) hb)
      have n2_ := Aside0.mk (below_step (by repeat (first | (with_reducible first | exact HB.out | apply below_alloc | apply pw_below_drewN | apply below_drew1 | refine below_set ?_ GE266.out | refine below_set ?_ GE267.out) | exact HB.out)) hb)
      clear BK266
      clear BK267
      clear HB
      have BK266 := n0_
      have BK267 := n1_
      have HB := n2_
      clear n0_ n1_ n2_
      (try clear hb)
      (try clear hb2)
      (try clear hk)
      (try clear hi)
      refine hK.out _ _ ⟨(blk_cell BK266.out 0).trans rfl, (blk_cell BK266.out 1).trans rfl, (blk_cell BK267.out 0).trans rfl, (blk_cell BK267.out 1).trans rfl⟩ (fun hHeld => ?_)
      clear hK K
      refine norm_ (a' := ?_) ?_ ?_
      rotate_left
      · show Act.put _ (some 16) _ = _
        simp only [Act.put, List.setIfInBounds_toArray, List.set_cons_zero, List.set_cons_succ, i64_w, i32_w]
        rfl
      refine one_ (i := 4) (N := some 17) #[true, true, true, true, true, false] rfl rfl (by kernel_rfl) (by decide) (fun K hK => ?_)
      refine goes_ Try.func76 (by kernel_rfl) rfl #[.int .i64 t269, .int .i64 t270] (by rfl) rfl rfl (by (try simp only [List.map_toArray, List.map_cons, List.map_nil]); first | done | rfl | (simp only [List.length_drop, List.length_take]; rfl)) ?_
      with_reducible refine (cmp_Compare_int.calls t269 t270 t271 _ A7.out).mono ?_
      rintro e w' ⟨rfl, ⟨nd, rfl⟩⟩
      refine ⟨_, rfl, ?_⟩
      refine hK.out _ _ ⟨(blk_cell BK266.out 0).trans rfl, (blk_cell BK266.out 1).trans rfl, (blk_cell BK267.out 0).trans rfl, (blk_cell BK267.out 1).trans rfl⟩ (fun hHeld => ?_)
      clear hK K
      refine norm_ (a' := ?_) ?_ ?_
      rotate_left
      · show Act.put _ (some 17) _ = _
        simp only [Act.put, List.setIfInBounds_toArray, List.set_cons_zero, List.set_cons_succ, i64_w, i32_w]
        rfl
      refine pure_ (i := 5) (N := some 5) (v := ?_) (a' := ?_) #[true, true, true, true, true, true] rfl rfl (by kernel_rfl) (fun _ _ _ h => h) (Or.inl ⟨by rfl, ?_⟩) ?_ ?_
      rotate_left
      · intro w'
        go_simp
        with_reducible rfl
      rotate_left
      · simp only [Act.put, List.setIfInBounds_toArray, List.set_cons_zero, List.set_cons_succ, i64_w, i32_w]
        rfl
      refine done_ (by kernel_rfl) ?_
      go_upto_region 6 with (fail)
      go_cut [29] (fun v29 wc => ∃ (kq : Nat) (x29_8 : Bool), v29 = .bool x29_8 ∧ Aside0 (kbo_Greater.j0 kq x29_8 a0_0 l0_1 a1_0 l1_1 = some r) ∧ Aside0 (kq ≤ k) ∧ Aside0 (wc.heap[gb266]? = some (.cells #[.int .i64 a0_0, (.slice A0_1 l0_1.length c0_1)] 30 (0, 0))) ∧ Aside0 (wc.heap[gb267]? = some (.cells #[.int .i64 a1_0, (.slice A1_1 l1_1.length c1_1)] 30 (0, 0))) ∧ Aside0 (Below w.heap.size w wc))
      case first =>
        have H := HC9.out
        clear HC9
        by_cases c19 : a0_0 < 0
        · rw [if_pos c19] at H
          have c19b0 : decide (a0_0 < 0) = true := decide_eq_true c19
          clear c19
          (first | rw [c19b0] | (simp only [i64_w, i32_w]; rw [c19b0]) | skip)
          have H' := Aside0.mk H
          clear H
          have hnb20 := NB266_267.out
          have hnc20 := NB267_266.out
          have hcz21_0 : w18.cell? ⟨gb266, 0, none⟩ = some (.int .i64 a0_0) := (blk_cell BK266.out 0).trans rfl
          have hcz21_1 : w18.cell? ⟨gb266, 1, none⟩ = some (.slice A0_1 l0_1.length c0_1) := (blk_cell BK266.out 1).trans rfl
          have hfz21_0 := blk_frozen BK266.out 0
          have hfz21_1 := blk_frozen BK266.out 1
          go_wp2
          go_meet
          case rel => exact ⟨_, (true), (by first | rfl | (simp; done) | (simp [*]; done)), H', ⟨by first | omega | exact Nat.le_refl _⟩, ⟨by (with_reducible repeat (first | refine blk_drewN ?_ _ | refine blk_drew ?_ | refine blk_alloc ?_ _)); exact BK266.out⟩, ⟨by (with_reducible repeat (first | refine blk_drewN ?_ _ | refine blk_drew ?_ | refine blk_alloc ?_ _)); exact BK267.out⟩, ⟨by repeat (first | (with_reducible first | exact HB.out | apply below_alloc | apply pw_below_drewN | apply below_drew1 | refine below_set ?_ GE266.out | refine below_set ?_ GE267.out) | exact HB.out)⟩⟩
        · rw [if_neg c19] at H
          have c19b0 : decide (a0_0 < 0) = false := decide_eq_false c19
          clear c19
          (first | rw [c19b0] | (simp only [i64_w, i32_w]; rw [c19b0]) | skip)
          have H' := Aside0.mk H
          clear H
          have hnb22 := NB266_267.out
          have hnc22 := NB267_266.out
          have hcz23_0 : w18.cell? ⟨gb266, 0, none⟩ = some (.int .i64 a0_0) := (blk_cell BK266.out 0).trans rfl
          have hcz23_1 : w18.cell? ⟨gb266, 1, none⟩ = some (.slice A0_1 l0_1.length c0_1) := (blk_cell BK266.out 1).trans rfl
          have hfz23_0 := blk_frozen BK266.out 0
          have hfz23_1 := blk_frozen BK266.out 1
          have hcz24_0 : w18.cell? ⟨gb267, 0, none⟩ = some (.int .i64 a1_0) := (blk_cell BK267.out 0).trans rfl
          have hcz24_1 : w18.cell? ⟨gb267, 1, none⟩ = some (.slice A1_1 l1_1.length c1_1) := (blk_cell BK267.out 1).trans rfl
          have hfz24_0 := blk_frozen BK267.out 0
          have hfz24_1 := blk_frozen BK267.out 1
          go_wp2
          go_meet
          case rel => exact ⟨_, (decide (a1_0 < 0)), (by first | rfl | (simp; done) | (simp [*]; done)), H', ⟨by first | omega | exact Nat.le_refl _⟩, ⟨by (with_reducible repeat (first | refine blk_drewN ?_ _ | refine blk_drew ?_ | refine blk_alloc ?_ _)); exact BK266.out⟩, ⟨by (with_reducible repeat (first | refine blk_drewN ?_ _ | refine blk_drew ?_ | refine blk_alloc ?_ _)); exact BK267.out⟩, ⟨by repeat (first | (with_reducible first | exact HB.out | apply below_alloc | apply pw_below_drewN | apply below_drew1 | refine below_set ?_ GE266.out | refine below_set ?_ GE267.out) | exact HB.out)⟩⟩
      case rest =>
        clear HC9
        try clear c1
        try clear c2
        try clear p2
        try clear c3
        try clear c4
        try clear c7
        try clear c8
        try clear c8b0
        try clear c8b1
        try clear c12
        try clear c19
        try clear c19b0
        try clear c20
        try clear c22
        try clear hcz13_0
        try clear hcz13_1
        try clear hcz14_0
        try clear hcz14_1
        try clear hcz21_0
        try clear hcz21_1
        try clear hcz23_0
        try clear hcz23_1
        try clear hcz24_0
        try clear hcz24_1
        try clear hfz13_0
        try clear hfz13_1
        try clear hfz14_0
        try clear hfz14_1
        try clear hfz21_0
        try clear hfz21_1
        try clear hfz23_0
        try clear hfz23_1
        try clear hfz24_0
        try clear hfz24_1
        obtain ⟨kq, x29_8, rfl, HA, HJ8, BK266, BK267, HB⟩ := hcut
        cases kq with
        | zero => exact absurd HA.out (by simp [kbo_Greater.j0])
        | succ kj8 =>
          have H := HA.out
          clear HA
          simp only [kbo_Greater.j0] at H
          by_cases c25 : x29_8 = true
          · subst c25
            have H1 : (some false) = some r := by rw [if_pos rfl] at H; exact H
            clear H
            have H := H1
            clear H1
            obtain rfl := Option.some.inj H
            go_wp2
            go_ret
            exact ⟨by first | rfl | (simp [errW_none, errW_some] <;> rfl) | (simp [*, errW_none, errW_some] <;> rfl), by repeat (first | (with_reducible first | exact HB.out | apply below_alloc | apply pw_below_drewN | apply below_drew1 | refine below_set ?_ GE266.out | refine below_set ?_ GE267.out) | exact HB.out)⟩
          · replace c25 := Bool.eq_false_iff.mpr c25
            subst c25
            have H1 : ((cmp_Compare_int.f a0_0 a1_0).bind fun t272 => ((cmp_Compare_int.f (l0_1.length : Int) (l1_1.length : Int)).bind fun t273 => ((cmp_Or_int.f kj8 (([t272, t273] : List Int))).bind fun t277 => (if t277 = 0 then (kbo_Greater.l0 kj8 l0_1 (l0_1.length : Int) 0 a1_0 l1_1) else (some (decide (t277 > 0))))))) = some r := by rw [if_neg (show ¬ (false = true) by decide)] at H; exact H
            clear H
            have H := H1
            clear H1
            replace H := Option.bind_eq_some_iff.mp H
            obtain ⟨t272, A260, H⟩ := H
            replace H : ((cmp_Compare_int.f (l0_1.length : Int) (l1_1.length : Int)).bind fun t273 => ((cmp_Or_int.f kj8 (([t272, t273] : List Int))).bind fun t277 => (if t277 = 0 then (kbo_Greater.l0 kj8 l0_1 (l0_1.length : Int) 0 a1_0 l1_1) else (some (decide (t277 > 0)))))) = some r := H
            have A26 := Aside0.mk A260
            clear A260
            replace H := Option.bind_eq_some_iff.mp H
            obtain ⟨t273, A270, H⟩ := H
            replace H : ((cmp_Or_int.f kj8 (([t272, t273] : List Int))).bind fun t277 => (if t277 = 0 then (kbo_Greater.l0 kj8 l0_1 (l0_1.length : Int) 0 a1_0 l1_1) else (some (decide (t277 > 0))))) = some r := H
            have A27 := Aside0.mk A270
            clear A270
            obtain ⟨y274, hy274⟩ : ∃ y_ : List Int, y_ = (([t272, t273] : List Int)) := ⟨_, rfl⟩
            replace H : ((cmp_Or_int.f kj8 y274).bind fun t277 => (if t277 = 0 then (kbo_Greater.l0 kj8 l0_1 (l0_1.length : Int) 0 a1_0 l1_1) else (some (decide (t277 > 0))))) = some r := by first | (rw [hy274]; with_reducible exact H) | (have H2_ := (Option.bind_some _ _).symm.trans H; rw [hy274]; with_reducible exact H2_) | (have H2_ := (Option.bind_some _ _).symm.trans H; with_reducible exact H2_) | with_reducible exact H | (rw [hy274]; exact H) | exact H
            have Ny274 := Aside0.mk hy274
            clear hy274
            replace H := Option.bind_eq_some_iff.mp H
            obtain ⟨t277, A280, H⟩ := H
            replace H : (if t277 = 0 then (kbo_Greater.l0 kj8 l0_1 (l0_1.length : Int) 0 a1_0 l1_1) else (some (decide (t277 > 0)))) = some r := H
            have A28 := Aside0.mk A280
            clear A280
            by_cases c29 : t277 = 0
            · rw [if_pos c29] at H
              have c29b0 : (t277 == 0) = true := beq_iff_eq.mpr c29
              have c29b1 : (t277 != 0) = false := bne_eq_false_iff_eq.mpr c29
              clear c29
              have H' := Aside0.mk H
              clear H
              try go_wp2
              have n0_ := Aside0.mk (blk_drew BK266.out)
              have n1_ := Aside0.mk (blk_drew BK267.out)
              have n2_ := Aside0.mk (below_drew1 HB.out)
              clear BK266
              clear BK267
              clear HB
              have BK266 := n0_
              have BK267 := n1_
              have HB := n2_
              clear n0_ n1_ n2_
              refine start_ (n := 15) (S := fun w' => w'.cell? ⟨gb266, 0, none⟩ = some (.int .i64 a0_0) ∧ w'.cell? ⟨gb266, 1, none⟩ = some (.slice A0_1 l0_1.length c0_1) ∧ w'.cell? ⟨gb267, 0, none⟩ = some (.int .i64 a1_0) ∧ w'.cell? ⟨gb267, 1, none⟩ = some (.slice A1_1 l1_1.length c1_1)) (ds := []) #[false, false, false, false, false, false, false, false, false, false, false, false, false, false, false] (by kernel_rfl) rfl rfl ⟨(blk_cell BK266.out 0).trans rfl, (blk_cell BK266.out 1).trans rfl, (blk_cell BK267.out 0).trans rfl, (blk_cell BK267.out 1).trans rfl⟩ (fun hHeld => ?_); refine with_tabW kbo_Greater.tab8 kbo_Greater.bits8 (fun HT_ HW_ => ?_)
              generalize wc.drew = w30 at BK266 BK267 HB hHeld ⊢
              refine pure_ (i := 0) (N := some 30) (v := ?_) (a' := ?_) #[true, false, false, false, false, false, false, false, false, false, false, false, false, false, false] rfl rfl (any_of HT_.out (by kernel_rfl)) (fun _ _ _ h => h) (Or.inl ⟨by rfl, ?_⟩) ?_ ?_
              rotate_left
              · intro w'
                go_simp
                with_reducible rfl
              rotate_left
              · simp only [Act.put, List.setIfInBounds_toArray, List.set_cons_zero, List.set_cons_succ, i64_w, i32_w]
                rfl
              refine pure_ (i := 2) (N := some 32) (v := ?_) (a' := ?_) #[true, false, true, false, false, false, false, false, false, false, false, false, false, false, false] rfl rfl (any_of HT_.out (by kernel_rfl)) (fun _ _ _ h => h) (Or.inl ⟨by rfl, ?_⟩) ?_ ?_
              rotate_left
              · intro w'
                go_simp
                with_reducible rfl
              rotate_left
              · simp only [Act.put, List.setIfInBounds_toArray, List.set_cons_zero, List.set_cons_succ, i64_w, i32_w]
                rfl
              refine pure_ (i := 5) (N := some 35) (v := ?_) (a' := ?_) #[true, false, true, false, false, true, false, false, false, false, false, false, false, false, false] rfl rfl (any_of HT_.out (by kernel_rfl)) (fun _ _ _ h => h) (Or.inl ⟨by rfl, ?_⟩) ?_ ?_
              rotate_left
              · intro w'
                go_simp
                with_reducible rfl
              rotate_left
              · simp only [Act.put, List.setIfInBounds_toArray, List.set_cons_zero, List.set_cons_succ, i64_w, i32_w]
                rfl
              refine pure_ (i := 8) (N := some 38) (v := ?_) (a' := ?_) #[true, false, true, false, false, true, false, false, true, false, false, false, false, false, false] rfl rfl (any_of HT_.out (by kernel_rfl)) (fun _ _ _ h => h) (Or.inl ⟨by rfl, ?_⟩) ?_ ?_
              rotate_left
              · intro w'
                go_simp
                with_reducible rfl
              rotate_left
              · simp only [Act.put, List.setIfInBounds_toArray, List.set_cons_zero, List.set_cons_succ, i64_w, i32_w]
                rfl
              refine take_ (i := 1) (N := some 31) (v := ?_) (a' := ?_) #[true, true, true, false, false, true, false, false, true, false, false, false, false, false, false] rfl rfl (take_ofW HT_.out HW_.out (by kernel_rfl)) (fun _ _ _ h => h) (Or.inl ⟨by rfl, ?_⟩) hHeld ?_ ?_
              rotate_left
              · rintro w' ⟨s0, s1, s2, s3⟩
                go_simp
                with_reducible rfl
              rotate_left
              · simp only [Act.put, List.setIfInBounds_toArray, List.set_cons_zero, List.set_cons_succ, i64_w, i32_w]
                rfl
              refine take_ (i := 3) (N := some 33) (v := ?_) (a' := ?_) #[true, true, true, true, false, true, false, false, true, false, false, false, false, false, false] rfl rfl (take_ofW HT_.out HW_.out (by kernel_rfl)) (fun _ _ _ h => h) (Or.inl ⟨by rfl, ?_⟩) hHeld ?_ ?_
              rotate_left
              · rintro w' ⟨s0, s1, s2, s3⟩
                go_simp
                with_reducible rfl
              rotate_left
              · simp only [Act.put, List.setIfInBounds_toArray, List.set_cons_zero, List.set_cons_succ, i64_w, i32_w]
                rfl
              refine take_ (i := 6) (N := some 36) (v := ?_) (a' := ?_) #[true, true, true, true, false, true, true, false, true, false, false, false, false, false, false] rfl rfl (take_ofW HT_.out HW_.out (by kernel_rfl)) (fun _ _ _ h => h) (Or.inl ⟨by rfl, ?_⟩) hHeld ?_ ?_
              rotate_left
              · rintro w' ⟨s0, s1, s2, s3⟩
                go_simp
                with_reducible rfl
              rotate_left
              · simp only [Act.put, List.setIfInBounds_toArray, List.set_cons_zero, List.set_cons_succ, i64_w, i32_w]
                rfl
              refine pure_ (i := 7) (N := some 37) (v := ?_) (a' := ?_) #[true, true, true, true, false, true, true, true, true, false, false, false, false, false, false] rfl rfl (any_of HT_.out (by kernel_rfl)) (fun _ _ _ h => h) (Or.inl ⟨by rfl, ?_⟩) ?_ ?_
              rotate_left
              · intro w'
                go_simp
                with_reducible rfl
              rotate_left
              · simp only [Act.put, List.setIfInBounds_toArray, List.set_cons_zero, List.set_cons_succ, i64_w, i32_w]
                rfl
              refine take_ (i := 9) (N := some 39) (v := ?_) (a' := ?_) #[true, true, true, true, false, true, true, true, true, true, false, false, false, false, false] rfl rfl (take_ofW HT_.out HW_.out (by kernel_rfl)) (fun _ _ _ h => h) (Or.inl ⟨by rfl, ?_⟩) hHeld ?_ ?_
              rotate_left
              · rintro w' ⟨s0, s1, s2, s3⟩
                go_simp
                with_reducible rfl
              rotate_left
              · simp only [Act.put, List.setIfInBounds_toArray, List.set_cons_zero, List.set_cons_succ, i64_w, i32_w]
                rfl
              refine pure_ (i := 10) (N := some 40) (v := ?_) (a' := ?_) #[true, true, true, true, false, true, true, true, true, true, true, false, false, false, false] rfl rfl (any_of HT_.out (by kernel_rfl)) (fun _ _ _ h => h) (Or.inl ⟨by rfl, ?_⟩) ?_ ?_
              rotate_left
              · intro w'
                go_simp
                with_reducible rfl
              rotate_left
              · simp only [Act.put, List.setIfInBounds_toArray, List.set_cons_zero, List.set_cons_succ, i64_w, i32_w]
                rfl
              refine one_ (i := 4) (N := some 34) #[true, true, true, true, true, true, true, true, true, true, true, false, false, false, false] rfl rfl (one_of HT_.out (by kernel_rfl)) (by decide) (fun K hK => ?_)
              refine goes_ Try.func76 (by kernel_rfl) rfl #[.int .i64 a0_0, .int .i64 a1_0] (by rfl) rfl rfl (by (try simp only [List.map_toArray, List.map_cons, List.map_nil]); first | done | rfl | (simp only [List.length_drop, List.length_take]; rfl)) ?_
              with_reducible refine (cmp_Compare_int.calls a0_0 a1_0 t272 _ A26.out).mono ?_
              rintro e w' ⟨rfl, ⟨nd, rfl⟩⟩
              refine ⟨_, rfl, ?_⟩
              refine hK.out _ _ ⟨(blk_cell BK266.out 0).trans rfl, (blk_cell BK266.out 1).trans rfl, (blk_cell BK267.out 0).trans rfl, (blk_cell BK267.out 1).trans rfl⟩ (fun hHeld => ?_)
              clear hK K
              refine norm_ (a' := ?_) ?_ ?_
              rotate_left
              · show Act.put _ (some 34) _ = _
                simp only [Act.put, List.setIfInBounds_toArray, List.set_cons_zero, List.set_cons_succ, i64_w, i32_w]
                rfl
              refine one_ (i := 11) (N := some 41) #[true, true, true, true, true, true, true, true, true, true, true, true, false, false, false] rfl rfl (one_of HT_.out (by kernel_rfl)) (by decide) (fun K hK => ?_)
              refine goes_ Try.func76 (by kernel_rfl) rfl #[.int .i64 (l0_1.length : Int), .int .i64 (l1_1.length : Int)] (by rfl) rfl rfl (by (try simp only [List.map_toArray, List.map_cons, List.map_nil]); first | done | rfl | (simp only [List.length_drop, List.length_take]; rfl)) ?_
              with_reducible refine (cmp_Compare_int.calls (l0_1.length : Int) (l1_1.length : Int) t273 _ A27.out).mono ?_
              rintro e w' ⟨rfl, ⟨nd, rfl⟩⟩
              refine ⟨_, rfl, ?_⟩
              refine hK.out _ _ ⟨(blk_cell BK266.out 0).trans rfl, (blk_cell BK266.out 1).trans rfl, (blk_cell BK267.out 0).trans rfl, (blk_cell BK267.out 1).trans rfl⟩ (fun hHeld => ?_)
              clear hK K
              refine norm_ (a' := ?_) ?_ ?_
              rotate_left
              · show Act.put _ (some 41) _ = _
                simp only [Act.put, List.setIfInBounds_toArray, List.set_cons_zero, List.set_cons_succ, i64_w, i32_w]
                rfl
              refine one_ (i := 12) (N := some 42) #[true, true, true, true, true, true, true, true, true, true, true, true, true, false, false] rfl rfl (one_of HT_.out (by kernel_rfl)) (by decide) (fun K hK => ?_)
              refine Kd.R_lit_step (Kd.int .i64) _ 3 ?hg (N := 42) ?hd (xs := ([t272, t273] : List Int)) (inner := [.int .i64 t272, .int .i64 t273]) (ok := fun _ => True) (okp := fun _ => True) ?hr ?hp (fun _ hk => hk) trivial (Below.refl _ _) (Nat.le_refl _) (by simp) ?_; (case hd => rfl); (case hg => rfl); (case hr => first | (go_simp; done) | (go_simp; rfl)); (case hp => exact (Reps.one (show Kd.M (Kd.int .i64) _ _ _ t272 [.int .i64 t272] from rfl) (Reps.one (show Kd.M (Kd.int .i64) _ _ _ t273 [.int .i64 t273] from rfl) (Reps.none _ _))))
              intro v275 w31 ho32 hb hg_ hnew_
              clear hg_ hnew_
              (first | rw [← Ny274.out] at ho32 | (simp only [Int.reduceToNat] at ho32; rw [← Ny274.out] at ho32))
              have n0_ := Aside0.mk (Kd.R_lower ho32 (below_size (by repeat (first | (with_reducible first | exact HB.out | apply below_alloc | apply pw_below_drewN | apply below_drew1 | refine below_set ?_ GE266.out | refine below_set ?_ GE267.out) | exact HB.out))))
              have n1_ := Aside0.mk (blk_below (g := gb266) (o := .cells #[.int .i64 a0_0, .slice A0_1 l0_1.length c0_1] 30 (0, 0)) (by (with_reducible repeat (first | refine blk_drewN ?_ _ | refine blk_drew ?_ | refine blk_alloc ?_ _)); exact BK266.out) hb)
              have n2_ := Aside0.mk (blk_below (g := gb267) (o := .cells #[.int .i64 a1_0, .slice A1_1 l1_1.length c1_1] 30 (0, 0)) (by (with_reducible repeat (first | refine blk_drewN ?_ _ | refine blk_drew ?_ | refine blk_alloc ?_ _)); exact BK267.out) hb)
              have n3_ := Aside0.mk (below_step (by repeat (first | (with_reducible first | exact HB.out | apply below_alloc | apply pw_below_drewN | apply below_drew1 | refine below_set ?_ GE266.out | refine below_set ?_ GE267.out) | exact HB.out)) hb)
              clear BK266
              clear BK267
              clear HB
              have HO276 := n0_
              have BK266 := n1_
              have BK267 := n2_
              have HB := n3_
              clear n0_ n1_ n2_ n3_
              clear hb ho32
              obtain ⟨Ao33, co33, eo33⟩ := Kd.R_slice HO276.out
              (first | subst eo33 | (injection eo33 with f1_ f2_ f3_; have f4_ := f1_.symm; have f5_ := f3_.symm; clear f1_ f2_ f3_; subst f4_; subst f5_))
              refine hK.out _ _ ⟨(blk_cell BK266.out 0).trans rfl, (blk_cell BK266.out 1).trans rfl, (blk_cell BK267.out 0).trans rfl, (blk_cell BK267.out 1).trans rfl⟩ (fun hHeld => ?_)
              clear hK K
              refine norm_ (a' := ?_) ?_ ?_
              rotate_left
              · show Act.put _ (some 42) _ = _
                simp only [Act.put, List.setIfInBounds_toArray, List.set_cons_zero, List.set_cons_succ, i64_w, i32_w]
                rfl
              refine one_ (i := 13) (N := some 43) #[true, true, true, true, true, true, true, true, true, true, true, true, true, true, false] rfl rfl (one_of HT_.out (by kernel_rfl)) (by decide) (fun K hK => ?_)
              refine goes_ Try.func77 (by kernel_rfl) rfl #[.slice Ao33 y274.length co33] (by rfl) rfl rfl (by (try simp only [List.map_toArray, List.map_cons, List.map_nil]); first | done | rfl | (simp only [List.length_drop, List.length_take]; rfl)) ?_
              with_reducible refine (cmp_Or_int.calls kj8 _ _ y274 t277 _ ?side1 ?side2 A28.out).mono ?_
              (case side1 => repeat (first | exact (Kd.R_reads' HO276.out).2.2 | (with_reducible refine Kd.C_alloc ?_ _) | (with_reducible refine Kd.C_drewN ?_ _) | (with_reducible refine Kd.C_drew ?_)))
              (case side2 => exact (Kd.R_reads' HO276.out).2.1)
              rintro e w' ⟨rfl, ⟨nd, rfl⟩⟩
              refine ⟨_, rfl, ?_⟩
              refine hK.out _ _ ⟨(blk_cell BK266.out 0).trans rfl, (blk_cell BK266.out 1).trans rfl, (blk_cell BK267.out 0).trans rfl, (blk_cell BK267.out 1).trans rfl⟩ (fun hHeld => ?_)
              clear hK K
              refine norm_ (a' := ?_) ?_ ?_
              rotate_left
              · show Act.put _ (some 43) _ = _
                simp only [Act.put, List.setIfInBounds_toArray, List.set_cons_zero, List.set_cons_succ, i64_w, i32_w]
                rfl
              refine pure_ (i := 14) (N := some 6) (v := ?_) (a' := ?_) #[true, true, true, true, true, true, true, true, true, true, true, true, true, true, true] rfl rfl (any_of HT_.out (by kernel_rfl)) (fun _ _ _ h => h) (Or.inl ⟨by rfl, ?_⟩) ?_ ?_
              rotate_left
              · intro w'
                go_simp
                with_reducible rfl
              rotate_left
              · simp only [Act.put, List.setIfInBounds_toArray, List.set_cons_zero, List.set_cons_succ, i64_w, i32_w]
                rfl
              refine done_ (done_of HT_.out (by kernel_rfl)) ?_
              have hnb34 := NB266_267.out
              have hnc34 := NB267_266.out
              have hcz35_0 : w31.cell? ⟨gb266, 0, none⟩ = some (.int .i64 a0_0) := (blk_cell BK266.out 0).trans rfl
              have hcz35_1 : w31.cell? ⟨gb266, 1, none⟩ = some (.slice A0_1 l0_1.length c0_1) := (blk_cell BK266.out 1).trans rfl
              have hfz35_0 := blk_frozen BK266.out 0
              have hfz35_1 := blk_frozen BK266.out 1
              try go_wp2
              go_loopg [51] kj8 (fun kq v51 w' => ∃ (x51_2 : Int), v51 = .int .i64 x51_2 ∧ Aside0 (kbo_Greater.l0 kq l0_1 (l0_1.length : Int) x51_2 a1_0 l1_1 = some r) ∧ Aside0 (kq ≤ kj8) ∧ Aside0 (w'.heap[gb266]? = some (.cells #[.int .i64 a0_0, (.slice A0_1 l0_1.length c0_1)] 30 (0, 0))) ∧ Aside0 (w'.heap[gb267]? = some (.cells #[.int .i64 a1_0, (.slice A1_1 l1_1.length c1_1)] 30 (0, 0))) ∧ Aside0 (Below w.heap.size w w'))
              case atStart => exact ⟨(0), (by first | rfl | (simp; done) | (simp [*]; done)), H', ⟨Nat.le_refl _⟩, ⟨by (with_reducible repeat (first | refine blk_drewN ?_ _ | refine blk_drew ?_ | refine blk_alloc ?_ _)); exact BK266.out⟩, ⟨by (with_reducible repeat (first | refine blk_drewN ?_ _ | refine blk_drew ?_ | refine blk_alloc ?_ _)); exact BK267.out⟩, ⟨by repeat (first | (with_reducible first | exact HB.out | apply below_alloc | apply pw_below_drewN | apply below_drew1 | refine below_set ?_ GE266.out | refine below_set ?_ GE267.out) | exact HB.out)⟩⟩
              case round =>
                clear H'
                try clear c1
                try clear c2
                try clear p2
                try clear c3
                try clear c4
                try clear c7
                try clear c8
                try clear c8b0
                try clear c8b1
                try clear c12
                try clear c19
                try clear c19b0
                try clear c20
                try clear c22
                try clear c25
                try clear c29
                try clear c29b0
                try clear c29b1
                try clear c34
                try clear hcz13_0
                try clear hcz13_1
                try clear hcz14_0
                try clear hcz14_1
                try clear hcz21_0
                try clear hcz21_1
                try clear hcz23_0
                try clear hcz23_1
                try clear hcz24_0
                try clear hcz24_1
                try clear hcz35_0
                try clear hcz35_1
                try clear hfz13_0
                try clear hfz13_1
                try clear hfz14_0
                try clear hfz14_1
                try clear hfz21_0
                try clear hfz21_1
                try clear hfz23_0
                try clear hfz23_1
                try clear hfz24_0
                try clear hfz24_1
                try clear hfz35_0
                try clear hfz35_1
                try clear p2
                obtain ⟨x51_2, rfl, HA, HK2, BK266, BK267, HB⟩ := hrel
                cases gk with
                | zero => exact absurd HA.out (by simp [kbo_Greater.l0])
                | succ k2 =>
                  have H := HA.out
                  clear HA
                  simp only [kbo_Greater.l0] at H
                  by_cases c36 : x51_2 < (l0_1.length : Int)
                  · rw [if_pos c36] at H
                    have c36b0 : decide (x51_2 < (l0_1.length : Int)) = true := decide_eq_true c36
                    clear c36
                    by_cases c37 : 0 ≤ x51_2
                    · rw [if_pos c37] at H
                      have c37b0 : decide (0 ≤ x51_2) = true := decide_eq_true c37
                      clear c37
                      by_cases c38 : x51_2 < (l0_1.length : Int)
                      · rw [if_pos c38] at H
                        have c38b0 : decide (x51_2 < (l0_1.length : Int)) = true := decide_eq_true c38
                        clear c38
                        by_cases c39 : x51_2 < (l1_1.length : Int)
                        · rw [if_pos c39] at H
                          have c39b0 : decide (x51_2 < (l1_1.length : Int)) = true := decide_eq_true c39
                          clear c39
                          replace H := Option.bind_eq_some_iff.mp H
                          obtain ⟨t281, A400, H⟩ := H
                          replace H : (if t281 = true then (kbo_Greater.l0 k2 l0_1 (l0_1.length : Int) (wrap64 (x51_2 + 1)) a1_0 l1_1) else ((kbo_Greater.f k2 ((rd_T30 l0_1 x51_2).f0) ((rd_T30 l0_1 x51_2).f1) ((rd_T30 l1_1 x51_2).f0) ((rd_T30 l1_1 x51_2).f1)).bind fun t283 => (some t283))) = some r := H
                          have A40 := Aside0.mk A400
                          clear A400
                          by_cases c41 : t281 = true
                          · subst c41
                            have H1 : (kbo_Greater.l0 k2 l0_1 (l0_1.length : Int) (wrap64 (x51_2 + 1)) a1_0 l1_1) = some r := by rw [if_pos rfl] at H; exact H
                            clear H
                            have H := H1
                            clear H1
                            have H' := Aside0.mk H
                            clear H
                            have p278 : 0 ≤ (x51_2 : Int) := of_decide_eq_true (by first | (with_reducible assumption) | assumption)
                            have q278 : x51_2 < (l0_1.length : Int) := of_decide_eq_true (by first | (with_reducible assumption) | assumption)
                            obtain ⟨ad278, A278_1, c278_1, e278, hx278_0, hx278_1, hl278_1, hi278_1⟩ := at_T30 HR0_1.out x51_2 p278 q278
                            cases e278
                            replace hx278_0 := (HB.out.cell (World.block_lt_of_cell? w _ hx278_0)).trans hx278_0
                            replace hx278_1 := (HB.out.cell (World.block_lt_of_cell? w _ hx278_1)).trans hx278_1
                            have HR278_1 := Aside0.mk hi278_1
                            have HC278_1 := Aside0.mk hl278_1
                            clear hi278_1 hl278_1
                            replace p278 := eq_true p278
                            replace q278 := eq_true q278
                            try go_wp2_with (first | ((with_reducible refine gate_dst (N := 8) rfl ?_); refine box_event ?hg (N := 8) ?hd (cs := #[.int .i64 0, .slice none 0 0]) (t := 30) ?hr ?_; (case hd => rfl); (case hg => rfl); (case hr => first | (go_simp; done) | (go_simp; rfl)); intro gb279 hg w42 hbox hb; have n0_ := Aside0.mk (blk_below (g := gb266) (o := .cells #[.int .i64 a0_0, .slice (some ad278) l0_1.length c0_1] 30 (0, 0)) (by (with_reducible repeat (first | refine blk_drewN ?_ _ | refine blk_drew ?_ | refine blk_alloc ?_ _)); exact BK266.out) hb); have n1_ := Aside0.mk (blk_below (g := gb267) (o := .cells #[.int .i64 a1_0, .slice A1_1 l1_1.length c1_1] 30 (0, 0)) (by (with_reducible repeat (first | refine blk_drewN ?_ _ | refine blk_drew ?_ | refine blk_alloc ?_ _)); exact BK267.out) hb); have n2_ := Aside0.mk (below_step (by repeat (first | (with_reducible first | exact HB.out | apply below_alloc | apply pw_below_drewN | apply below_drew1 | refine below_set ?_ GE266.out | refine below_set ?_ GE267.out) | exact HB.out)) hb); have n3_ := Aside0.mk (hbox); have n4_ := Aside0.mk ((by rw [hg]; exact (below_size (by repeat (first | (with_reducible first | exact HB.out | apply below_alloc | apply pw_below_drewN | apply below_drew1 | refine below_set ?_ GE266.out | refine below_set ?_ GE267.out) | exact HB.out))) : w.heap.size ≤ gb279)); have n5_ := Aside0.mk ((by rw [hg]; exact (below_size (by repeat (first | (with_reducible first | exact HB.out | apply below_alloc | apply pw_below_drewN | apply below_drew1 | refine below_set ?_ GE266.out | refine below_set ?_ GE267.out) | exact HB.out))) : w.heap.size ≤ gb279)); have n6_ := Aside0.mk ((by rw [hg]; exact Nat.ne_of_lt (blk_lt (g := gb266) (o := .cells #[.int .i64 a0_0, .slice (some ad278) l0_1.length c0_1] 30 (0, 0)) (by (with_reducible repeat (first | refine blk_drewN ?_ _ | refine blk_drew ?_ | refine blk_alloc ?_ _)); exact BK266.out)) : gb266 ≠ gb279)); have n7_ := Aside0.mk ((by rw [hg]; exact Nat.ne_of_gt (blk_lt (g := gb266) (o := .cells #[.int .i64 a0_0, .slice (some ad278) l0_1.length c0_1] 30 (0, 0)) (by (with_reducible repeat (first | refine blk_drewN ?_ _ | refine blk_drew ?_ | refine blk_alloc ?_ _)); exact BK266.out)) : gb279 ≠ gb266)); have n8_ := Aside0.mk ((by rw [hg]; exact Nat.ne_of_lt (blk_lt (g := gb267) (o := .cells #[.int .i64 a1_0, .slice A1_1 l1_1.length c1_1] 30 (0, 0)) (by (with_reducible repeat (first | refine blk_drewN ?_ _ | refine blk_drew ?_ | refine blk_alloc ?_ _)); exact BK267.out)) : gb267 ≠ gb279)); have n9_ := Aside0.mk ((by rw [hg]; exact Nat.ne_of_gt (blk_lt (g := gb267) (o := .cells #[.int .i64 a1_0, .slice A1_1 l1_1.length c1_1] 30 (0, 0)) (by (with_reducible repeat (first | refine blk_drewN ?_ _ | refine blk_drew ?_ | refine blk_alloc ?_ _)); exact BK267.out)) : gb279 ≠ gb267)); clear BK266; clear BK267; clear HB; have BK266 := n0_; have BK267 := n1_; have HB := n2_; have BK279 := n3_; have GW279 := n4_; have GE279 := n5_; have NB266_279 := n6_; have NB279_266 := n7_; have NB267_279 := n8_; have NB279_267 := n9_; clear n0_ n1_ n2_ n3_ n4_ n5_ n6_ n7_ n8_ n9_; clear hb hbox hg; have hnb43 := NB279_266.out; have hnc43 := NB266_279.out; have hnb44 := NB279_267.out; have hnc44 := NB267_279.out; have hcz45_0 : w42.cell? ⟨gb279, 0, none⟩ = some (.int .i64 0) := (blk_cell BK279.out 0).trans rfl; have hcz45_1 : w42.cell? ⟨gb279, 1, none⟩ = some (.slice none 0 0) := (blk_cell BK279.out 1).trans rfl; have hfz45_0 := blk_frozen BK279.out 0; have hfz45_1 := blk_frozen BK279.out 1))
                            have n0_ : Aside0 (((w42.setCell ⟨gb279, 0, none⟩ (.int .i64 ((rd_T30 l0_1 x51_2).f0))).setCell ⟨gb279, 1, none⟩ (.slice A278_1 ((rd_T30 l0_1 x51_2).f1).length c278_1)).heap[gb266]? = some (.cells #[.int .i64 a0_0, .slice (some ad278) l0_1.length c0_1] 30 (0, 0))) := ⟨by (with_reducible repeat (first | refine blk_drewN ?_ _ | refine blk_drew ?_ | refine blk_alloc ?_ _)); refine blk_far ?_ NB266_279.out _; (with_reducible repeat (first | refine blk_drewN ?_ _ | refine blk_drew ?_ | refine blk_alloc ?_ _)); refine blk_far ?_ NB266_279.out _; (with_reducible repeat (first | refine blk_drewN ?_ _ | refine blk_drew ?_ | refine blk_alloc ?_ _)); exact BK266.out⟩
                            have n1_ : Aside0 (((w42.setCell ⟨gb279, 0, none⟩ (.int .i64 ((rd_T30 l0_1 x51_2).f0))).setCell ⟨gb279, 1, none⟩ (.slice A278_1 ((rd_T30 l0_1 x51_2).f1).length c278_1)).heap[gb267]? = some (.cells #[.int .i64 a1_0, .slice A1_1 l1_1.length c1_1] 30 (0, 0))) := ⟨by (with_reducible repeat (first | refine blk_drewN ?_ _ | refine blk_drew ?_ | refine blk_alloc ?_ _)); refine blk_far ?_ NB267_279.out _; (with_reducible repeat (first | refine blk_drewN ?_ _ | refine blk_drew ?_ | refine blk_alloc ?_ _)); refine blk_far ?_ NB267_279.out _; (with_reducible repeat (first | refine blk_drewN ?_ _ | refine blk_drew ?_ | refine blk_alloc ?_ _)); exact BK267.out⟩
                            have n2_ : Aside0 (((w42.setCell ⟨gb279, 0, none⟩ (.int .i64 ((rd_T30 l0_1 x51_2).f0))).setCell ⟨gb279, 1, none⟩ (.slice A278_1 ((rd_T30 l0_1 x51_2).f1).length c278_1)).heap[gb279]? = some (.cells #[.int .i64 ((rd_T30 l0_1 x51_2).f0), .slice A278_1 ((rd_T30 l0_1 x51_2).f1).length c278_1] 30 (0, 0))) := ⟨by (with_reducible repeat (first | refine blk_drewN ?_ _ | refine blk_drew ?_ | refine blk_alloc ?_ _)); refine blk_put (cs := #[.int .i64 ((rd_T30 l0_1 x51_2).f0), .slice none 0 0]) ?_ 1 _ rfl; (with_reducible repeat (first | refine blk_drewN ?_ _ | refine blk_drew ?_ | refine blk_alloc ?_ _)); refine blk_put (cs := #[.int .i64 0, .slice none 0 0]) ?_ 0 _ rfl; (with_reducible repeat (first | refine blk_drewN ?_ _ | refine blk_drew ?_ | refine blk_alloc ?_ _)); exact BK279.out⟩
                            have n3_ : Aside0 (Below w.heap.size w ((w42.setCell ⟨gb279, 0, none⟩ (.int .i64 ((rd_T30 l0_1 x51_2).f0))).setCell ⟨gb279, 1, none⟩ (.slice A278_1 ((rd_T30 l0_1 x51_2).f1).length c278_1))) := ⟨by repeat (first | (with_reducible first | exact HB.out | apply below_alloc | apply pw_below_drewN | apply below_drew1 | refine below_set ?_ GE266.out | refine below_set ?_ GE267.out | refine below_set ?_ GE279.out) | exact HB.out)⟩
                            (try clear BK266)
                            (try clear BK267)
                            (try clear BK279)
                            (try clear HB)
                            generalize ((w42.setCell ⟨gb279, 0, none⟩ (.int .i64 ((rd_T30 l0_1 x51_2).f0))).setCell ⟨gb279, 1, none⟩ (.slice A278_1 ((rd_T30 l0_1 x51_2).f1).length c278_1)) = w46 at n0_ n1_ n2_ n3_ ⊢
                            have BK266 := n0_
                            have BK267 := n1_
                            have BK279 := n2_
                            have HB := n3_
                            clear n0_ n1_ n2_ n3_
                            have n0_ := Aside0.mk (blk_drew BK266.out)
                            have n1_ := Aside0.mk (blk_drew BK267.out)
                            have n2_ := Aside0.mk (blk_drew BK279.out)
                            have n3_ := Aside0.mk (below_drew1 HB.out)
                            clear BK266
                            clear BK267
                            clear BK279
                            clear HB
                            have BK266 := n0_
                            have BK267 := n1_
                            have BK279 := n2_
                            have HB := n3_
                            clear n0_ n1_ n2_ n3_
                            have p280 : 0 ≤ (x51_2 : Int) := of_decide_eq_true (by first | (with_reducible assumption) | assumption)
                            have q280 : x51_2 < (l1_1.length : Int) := of_decide_eq_true (by first | (with_reducible assumption) | assumption)
                            obtain ⟨ad280, A280_1, c280_1, e280, hx280_0, hx280_1, hl280_1, hi280_1⟩ := at_T30 HR1_1.out x51_2 p280 q280
                            have hw280_1 := hx280_1
                            have hw280_0 := hx280_0
                            cases e280
                            replace hx280_0 := (HB.out.cell (World.block_lt_of_cell? w _ hx280_0)).trans hx280_0
                            replace hx280_1 := (HB.out.cell (World.block_lt_of_cell? w _ hx280_1)).trans hx280_1
                            have HR280_1 := Aside0.mk hi280_1
                            have HC280_1 := Aside0.mk hl280_1
                            clear hi280_1 hl280_1
                            replace p280 := eq_true p280
                            replace q280 := eq_true q280
                            refine start_ (n := 8) (S := fun w' => w'.cell? ⟨gb279, 0, none⟩ = some (.int .i64 ((rd_T30 l0_1 x51_2).f0)) ∧ w'.cell? ⟨gb279, 1, none⟩ = some (.slice A278_1 ((rd_T30 l0_1 x51_2).f1).length c278_1) ∧ w'.cell? ⟨gb267, 0, none⟩ = some (.int .i64 a1_0) ∧ w'.cell? ⟨gb267, 1, none⟩ = some (.slice (some ad280) l1_1.length c1_1) ∧ w'.cell? (ad280.add ((x51_2).toNat * 2)) = some (.int .i64 ((rd_T30 l1_1 x51_2).f0)) ∧ w'.cell? ⟨(ad280.add ((x51_2).toNat * 2)).block, (ad280.add ((x51_2).toNat * 2)).off + 1, none⟩ = some (.slice A280_1 ((rd_T30 l1_1 x51_2).f1).length c280_1)) (ds := []) #[false, false, false, false, false, false, false, false] (by kernel_rfl) rfl rfl ⟨(blk_cell BK279.out 0).trans rfl, (blk_cell BK279.out 1).trans rfl, (blk_cell BK267.out 0).trans rfl, (blk_cell BK267.out 1).trans rfl, ((HB.out.cell (World.block_lt_of_cell? w _ hw280_0)).trans hw280_0), ((HB.out.cell (World.block_lt_of_cell? w _ hw280_1)).trans hw280_1)⟩ (fun hHeld => ?_); refine with_tabW kbo_Greater.tab14 kbo_Greater.bits14 (fun HT_ HW_ => ?_)
                            generalize w46.drew = w47 at BK266 BK267 BK279 HB HR280_1 hx280_0 hx280_1 hHeld ⊢
                            refine pure_ (i := 1) (N := some 57) (v := ?_) (a' := ?_) #[false, true, false, false, false, false, false, false] rfl rfl (any_of HT_.out (by kernel_rfl)) (fun _ _ _ h => h) (Or.inl ⟨by rfl, ?_⟩) ?_ ?_
                            rotate_left
                            · intro w'
                              go_simp
                              with_reducible rfl
                            rotate_left
                            · simp only [Act.put, List.setIfInBounds_toArray, List.set_cons_zero, List.set_cons_succ, i64_w, i32_w]
                              rfl
                            refine pure_ (i := 3) (N := some 59) (v := ?_) (a' := ?_) #[false, true, false, true, false, false, false, false] rfl rfl (any_of HT_.out (by kernel_rfl)) (fun _ _ _ h => h) (Or.inl ⟨by rfl, ?_⟩) ?_ ?_
                            rotate_left
                            · intro w'
                              go_simp
                              with_reducible rfl
                            rotate_left
                            · simp only [Act.put, List.setIfInBounds_toArray, List.set_cons_zero, List.set_cons_succ, i64_w, i32_w]
                              rfl
                            refine take_ (i := 0) (N := some 56) (v := ?_) (a' := ?_) #[true, true, false, true, false, false, false, false] rfl rfl (take_ofW HT_.out HW_.out (by kernel_rfl)) (fun _ _ _ h => h) (Or.inl ⟨by rfl, ?_⟩) hHeld ?_ ?_
                            rotate_left
                            · rintro w' ⟨s0, s1, s2, s3, s4, s5⟩
                              go_simp
                              with_reducible rfl
                            rotate_left
                            · simp only [Act.put, List.setIfInBounds_toArray, List.set_cons_zero, List.set_cons_succ, i64_w, i32_w]
                              rfl
                            refine take_ (i := 2) (N := some 58) (v := ?_) (a' := ?_) #[true, true, true, true, false, false, false, false] rfl rfl (take_ofW HT_.out HW_.out (by kernel_rfl)) (fun _ _ _ h => h) (Or.inl ⟨by rfl, ?_⟩) hHeld ?_ ?_
                            rotate_left
                            · rintro w' ⟨s0, s1, s2, s3, s4, s5⟩
                              go_simp
                              with_reducible rfl
                            rotate_left
                            · simp only [Act.put, List.setIfInBounds_toArray, List.set_cons_zero, List.set_cons_succ, i64_w, i32_w]
                              rfl
                            refine pure_ (i := 4) (N := some 60) (v := ?_) (a' := ?_) #[true, true, true, true, true, false, false, false] rfl rfl (any_of HT_.out (by kernel_rfl)) (fun _ _ _ h => h) (Or.inl ⟨by rfl, ?_⟩) ?_ ?_
                            rotate_left
                            · intro w'
                              go_simp
                              with_reducible rfl
                            rotate_left
                            · simp only [Act.put, List.setIfInBounds_toArray, List.set_cons_zero, List.set_cons_succ, i64_w, i32_w]
                              rfl
                            refine take_ (i := 5) (N := some 61) (v := ?_) (a' := ?_) #[true, true, true, true, true, true, false, false] rfl rfl (take_ofW HT_.out HW_.out (by kernel_rfl)) (fun _ _ _ h => h) (Or.inl ⟨by rfl, ?_⟩) hHeld ?_ ?_
                            rotate_left
                            · rintro w' ⟨s0, s1, s2, s3, s4, s5⟩
                              go_simp
                              with_reducible rfl
                            rotate_left
                            · simp only [Act.put, List.setIfInBounds_toArray, List.set_cons_zero, List.set_cons_succ, i64_w, i32_w]
                              rfl
                            refine one_ (i := 6) (N := some 62) #[true, true, true, true, true, true, true, false] rfl rfl (one_of HT_.out (by kernel_rfl)) (by decide) (fun K hK => ?_)
                            refine goes_ Try.func37 (by kernel_rfl) rfl #[.agg #[.int .i64 ((rd_T30 l0_1 x51_2).f0), .slice A278_1 ((rd_T30 l0_1 x51_2).f1).length c278_1], .agg #[.int .i64 ((rd_T30 l1_1 x51_2).f0), .slice A280_1 ((rd_T30 l1_1 x51_2).f1).length c280_1]] (by rfl) rfl rfl (by (try simp only [List.map_toArray, List.map_cons, List.map_nil]); first | done | rfl | (simp only [List.length_drop, List.length_take]; rfl)) ?_
                            with_reducible refine (term_Same.calls ((rd_T30 l0_1 x51_2).f0) _ _ ((rd_T30 l0_1 x51_2).f1) ((rd_T30 l1_1 x51_2).f0) _ _ ((rd_T30 l1_1 x51_2).f1) true _ ?side1 ?side2 ?side3 ?side4 A40.out).mono ?_
                            (case side1 => repeat (first | exact (Kd.C_below HR278_1.out HB.out) | (with_reducible refine Kd.C_alloc ?_ _) | (with_reducible refine Kd.C_drewN ?_ _) | (with_reducible refine Kd.C_drew ?_)))
                            (case side2 => exact HC278_1.out)
                            (case side3 => repeat (first | exact (Kd.C_below HR280_1.out HB.out) | (with_reducible refine Kd.C_alloc ?_ _) | (with_reducible refine Kd.C_drewN ?_ _) | (with_reducible refine Kd.C_drew ?_)))
                            (case side4 => exact HC280_1.out)
                            rintro e w48 ⟨rfl, hb⟩
                            refine ⟨_, rfl, ?_⟩
                            have n0_ := Aside0.mk (blk_below (g := gb266) (o := .cells #[.int .i64 a0_0, .slice (some ad278) l0_1.length c0_1] 30 (0, 0)) (by (with_reducible repeat (first | refine blk_drewN ?_ _ | refine blk_drew ?_ | refine blk_alloc ?_ _)); exact BK266.out) hb)
                            have n1_ := Aside0.mk (blk_below (g := gb267) (o := .cells #[.int .i64 a1_0, .slice (some ad280) l1_1.length c1_1] 30 (0, 0)) (by (with_reducible repeat (first | refine blk_drewN ?_ _ | refine blk_drew ?_ | refine blk_alloc ?_ _)); exact BK267.out) hb)
                            have n2_ := Aside0.mk (blk_below (g := gb279) (o := .cells #[.int .i64 ((rd_T30 l0_1 x51_2).f0), .slice A278_1 ((rd_T30 l0_1 x51_2).f1).length c278_1] 30 (0, 0)) (by (with_reducible repeat (first | refine blk_drewN ?_ _ | refine blk_drew ?_ | refine blk_alloc ?_ _)); exact BK279.out) hb)
                            have n3_ := Aside0.mk (below_step (by repeat (first | (with_reducible first | exact HB.out | apply below_alloc | apply pw_below_drewN | apply below_drew1 | refine below_set ?_ GE266.out | refine below_set ?_ GE267.out | refine below_set ?_ GE279.out) | exact HB.out)) hb)
                            clear BK266
                            clear BK267
                            clear BK279
                            clear HB
                            have BK266 := n0_
                            have BK267 := n1_
                            have BK279 := n2_
                            have HB := n3_
                            clear n0_ n1_ n2_ n3_
                            (try clear hb)
                            (try clear hb2)
                            (try clear hk)
                            (try clear hi)
                            refine hK.out _ _ ⟨(blk_cell BK279.out 0).trans rfl, (blk_cell BK279.out 1).trans rfl, (blk_cell BK267.out 0).trans rfl, (blk_cell BK267.out 1).trans rfl, ((HB.out.cell (World.block_lt_of_cell? w _ hw280_0)).trans hw280_0), ((HB.out.cell (World.block_lt_of_cell? w _ hw280_1)).trans hw280_1)⟩ (fun hHeld => ?_)
                            clear hK K
                            refine norm_ (a' := ?_) ?_ ?_
                            rotate_left
                            · show Act.put _ (some 62) _ = _
                              simp only [Act.put, List.setIfInBounds_toArray, List.set_cons_zero, List.set_cons_succ, i64_w, i32_w]
                              rfl
                            refine pure_ (i := 7) (N := some 63) (v := ?_) (a' := ?_) #[true, true, true, true, true, true, true, true] rfl rfl (any_of HT_.out (by kernel_rfl)) (fun _ _ _ h => h) (Or.inl ⟨by rfl, ?_⟩) ?_ ?_
                            rotate_left
                            · intro w'
                              go_simp
                              with_reducible rfl
                            rotate_left
                            · simp only [Act.put, List.setIfInBounds_toArray, List.set_cons_zero, List.set_cons_succ, i64_w, i32_w]
                              rfl
                            refine done_ (done_of HT_.out (by kernel_rfl)) ?_
                            try go_wp2
                            go_roundg k2
                            case measure => have := HJ8.out; have := HK2.out; omega
                            case rel => exact ⟨(wrap64 (x51_2 + 1)), (by first | rfl | (simp; done) | (simp [*]; done)), H', ⟨by have := HJ8.out; have := HK2.out; omega⟩, ⟨by (with_reducible repeat (first | refine blk_drewN ?_ _ | refine blk_drew ?_ | refine blk_alloc ?_ _)); exact BK266.out⟩, ⟨by (with_reducible repeat (first | refine blk_drewN ?_ _ | refine blk_drew ?_ | refine blk_alloc ?_ _)); exact BK267.out⟩, ⟨by repeat (first | (with_reducible first | exact HB.out | apply below_alloc | apply pw_below_drewN | apply below_drew1 | refine below_set ?_ GE266.out | refine below_set ?_ GE267.out | refine below_set ?_ GE279.out) | exact HB.out)⟩⟩
                          · replace c41 := Bool.eq_false_iff.mpr c41
                            subst c41
                            have H1 : ((kbo_Greater.f k2 ((rd_T30 l0_1 x51_2).f0) ((rd_T30 l0_1 x51_2).f1) ((rd_T30 l1_1 x51_2).f0) ((rd_T30 l1_1 x51_2).f1)).bind fun t283 => (some t283)) = some r := by rw [if_neg (show ¬ (false = true) by decide)] at H; exact H
                            clear H
                            have H := H1
                            clear H1
                            replace H := Option.bind_eq_some_iff.mp H
                            obtain ⟨t283, A490, H⟩ := H
                            replace H : (some t283) = some r := H
                            have A49 := Aside0.mk A490
                            clear A490
                            obtain rfl := Option.some.inj H
                            have p278 : 0 ≤ (x51_2 : Int) := of_decide_eq_true (by first | (with_reducible assumption) | assumption)
                            have q278 : x51_2 < (l0_1.length : Int) := of_decide_eq_true (by first | (with_reducible assumption) | assumption)
                            obtain ⟨ad278, A278_1, c278_1, e278, hx278_0, hx278_1, hl278_1, hi278_1⟩ := at_T30 HR0_1.out x51_2 p278 q278
                            cases e278
                            replace hx278_0 := (HB.out.cell (World.block_lt_of_cell? w _ hx278_0)).trans hx278_0
                            replace hx278_1 := (HB.out.cell (World.block_lt_of_cell? w _ hx278_1)).trans hx278_1
                            have HR278_1 := Aside0.mk hi278_1
                            have HC278_1 := Aside0.mk hl278_1
                            clear hi278_1 hl278_1
                            replace p278 := eq_true p278
                            replace q278 := eq_true q278
                            try go_wp2_with (first | ((with_reducible refine gate_dst (N := 8) rfl ?_); refine box_event ?hg (N := 8) ?hd (cs := #[.int .i64 0, .slice none 0 0]) (t := 30) ?hr ?_; (case hd => rfl); (case hg => rfl); (case hr => first | (go_simp; done) | (go_simp; rfl)); intro gb279 hg w50 hbox hb; have n0_ := Aside0.mk (blk_below (g := gb266) (o := .cells #[.int .i64 a0_0, .slice (some ad278) l0_1.length c0_1] 30 (0, 0)) (by (with_reducible repeat (first | refine blk_drewN ?_ _ | refine blk_drew ?_ | refine blk_alloc ?_ _)); exact BK266.out) hb); have n1_ := Aside0.mk (blk_below (g := gb267) (o := .cells #[.int .i64 a1_0, .slice A1_1 l1_1.length c1_1] 30 (0, 0)) (by (with_reducible repeat (first | refine blk_drewN ?_ _ | refine blk_drew ?_ | refine blk_alloc ?_ _)); exact BK267.out) hb); have n2_ := Aside0.mk (below_step (by repeat (first | (with_reducible first | exact HB.out | apply below_alloc | apply pw_below_drewN | apply below_drew1 | refine below_set ?_ GE266.out | refine below_set ?_ GE267.out) | exact HB.out)) hb); have n3_ := Aside0.mk (hbox); have n4_ := Aside0.mk ((by rw [hg]; exact (below_size (by repeat (first | (with_reducible first | exact HB.out | apply below_alloc | apply pw_below_drewN | apply below_drew1 | refine below_set ?_ GE266.out | refine below_set ?_ GE267.out) | exact HB.out))) : w.heap.size ≤ gb279)); have n5_ := Aside0.mk ((by rw [hg]; exact (below_size (by repeat (first | (with_reducible first | exact HB.out | apply below_alloc | apply pw_below_drewN | apply below_drew1 | refine below_set ?_ GE266.out | refine below_set ?_ GE267.out) | exact HB.out))) : w.heap.size ≤ gb279)); have n6_ := Aside0.mk ((by rw [hg]; exact Nat.ne_of_lt (blk_lt (g := gb266) (o := .cells #[.int .i64 a0_0, .slice (some ad278) l0_1.length c0_1] 30 (0, 0)) (by (with_reducible repeat (first | refine blk_drewN ?_ _ | refine blk_drew ?_ | refine blk_alloc ?_ _)); exact BK266.out)) : gb266 ≠ gb279)); have n7_ := Aside0.mk ((by rw [hg]; exact Nat.ne_of_gt (blk_lt (g := gb266) (o := .cells #[.int .i64 a0_0, .slice (some ad278) l0_1.length c0_1] 30 (0, 0)) (by (with_reducible repeat (first | refine blk_drewN ?_ _ | refine blk_drew ?_ | refine blk_alloc ?_ _)); exact BK266.out)) : gb279 ≠ gb266)); have n8_ := Aside0.mk ((by rw [hg]; exact Nat.ne_of_lt (blk_lt (g := gb267) (o := .cells #[.int .i64 a1_0, .slice A1_1 l1_1.length c1_1] 30 (0, 0)) (by (with_reducible repeat (first | refine blk_drewN ?_ _ | refine blk_drew ?_ | refine blk_alloc ?_ _)); exact BK267.out)) : gb267 ≠ gb279)); have n9_ := Aside0.mk ((by rw [hg]; exact Nat.ne_of_gt (blk_lt (g := gb267) (o := .cells #[.int .i64 a1_0, .slice A1_1 l1_1.length c1_1] 30 (0, 0)) (by (with_reducible repeat (first | refine blk_drewN ?_ _ | refine blk_drew ?_ | refine blk_alloc ?_ _)); exact BK267.out)) : gb279 ≠ gb267)); clear BK266; clear BK267; clear HB; have BK266 := n0_; have BK267 := n1_; have HB := n2_; have BK279 := n3_; have GW279 := n4_; have GE279 := n5_; have NB266_279 := n6_; have NB279_266 := n7_; have NB267_279 := n8_; have NB279_267 := n9_; clear n0_ n1_ n2_ n3_ n4_ n5_ n6_ n7_ n8_ n9_; clear hb hbox hg; have hnb51 := NB279_266.out; have hnc51 := NB266_279.out; have hnb52 := NB279_267.out; have hnc52 := NB267_279.out; have hcz53_0 : w50.cell? ⟨gb279, 0, none⟩ = some (.int .i64 0) := (blk_cell BK279.out 0).trans rfl; have hcz53_1 : w50.cell? ⟨gb279, 1, none⟩ = some (.slice none 0 0) := (blk_cell BK279.out 1).trans rfl; have hfz53_0 := blk_frozen BK279.out 0; have hfz53_1 := blk_frozen BK279.out 1))
                            have n0_ : Aside0 (((w50.setCell ⟨gb279, 0, none⟩ (.int .i64 ((rd_T30 l0_1 x51_2).f0))).setCell ⟨gb279, 1, none⟩ (.slice A278_1 ((rd_T30 l0_1 x51_2).f1).length c278_1)).heap[gb266]? = some (.cells #[.int .i64 a0_0, .slice (some ad278) l0_1.length c0_1] 30 (0, 0))) := ⟨by (with_reducible repeat (first | refine blk_drewN ?_ _ | refine blk_drew ?_ | refine blk_alloc ?_ _)); refine blk_far ?_ NB266_279.out _; (with_reducible repeat (first | refine blk_drewN ?_ _ | refine blk_drew ?_ | refine blk_alloc ?_ _)); refine blk_far ?_ NB266_279.out _; (with_reducible repeat (first | refine blk_drewN ?_ _ | refine blk_drew ?_ | refine blk_alloc ?_ _)); exact BK266.out⟩
                            have n1_ : Aside0 (((w50.setCell ⟨gb279, 0, none⟩ (.int .i64 ((rd_T30 l0_1 x51_2).f0))).setCell ⟨gb279, 1, none⟩ (.slice A278_1 ((rd_T30 l0_1 x51_2).f1).length c278_1)).heap[gb267]? = some (.cells #[.int .i64 a1_0, .slice A1_1 l1_1.length c1_1] 30 (0, 0))) := ⟨by (with_reducible repeat (first | refine blk_drewN ?_ _ | refine blk_drew ?_ | refine blk_alloc ?_ _)); refine blk_far ?_ NB267_279.out _; (with_reducible repeat (first | refine blk_drewN ?_ _ | refine blk_drew ?_ | refine blk_alloc ?_ _)); refine blk_far ?_ NB267_279.out _; (with_reducible repeat (first | refine blk_drewN ?_ _ | refine blk_drew ?_ | refine blk_alloc ?_ _)); exact BK267.out⟩
                            have n2_ : Aside0 (((w50.setCell ⟨gb279, 0, none⟩ (.int .i64 ((rd_T30 l0_1 x51_2).f0))).setCell ⟨gb279, 1, none⟩ (.slice A278_1 ((rd_T30 l0_1 x51_2).f1).length c278_1)).heap[gb279]? = some (.cells #[.int .i64 ((rd_T30 l0_1 x51_2).f0), .slice A278_1 ((rd_T30 l0_1 x51_2).f1).length c278_1] 30 (0, 0))) := ⟨by (with_reducible repeat (first | refine blk_drewN ?_ _ | refine blk_drew ?_ | refine blk_alloc ?_ _)); refine blk_put (cs := #[.int .i64 ((rd_T30 l0_1 x51_2).f0), .slice none 0 0]) ?_ 1 _ rfl; (with_reducible repeat (first | refine blk_drewN ?_ _ | refine blk_drew ?_ | refine blk_alloc ?_ _)); refine blk_put (cs := #[.int .i64 0, .slice none 0 0]) ?_ 0 _ rfl; (with_reducible repeat (first | refine blk_drewN ?_ _ | refine blk_drew ?_ | refine blk_alloc ?_ _)); exact BK279.out⟩
                            have n3_ : Aside0 (Below w.heap.size w ((w50.setCell ⟨gb279, 0, none⟩ (.int .i64 ((rd_T30 l0_1 x51_2).f0))).setCell ⟨gb279, 1, none⟩ (.slice A278_1 ((rd_T30 l0_1 x51_2).f1).length c278_1))) := ⟨by repeat (first | (with_reducible first | exact HB.out | apply below_alloc | apply pw_below_drewN | apply below_drew1 | refine below_set ?_ GE266.out | refine below_set ?_ GE267.out | refine below_set ?_ GE279.out) | exact HB.out)⟩
                            (try clear BK266)
                            (try clear BK267)
                            (try clear BK279)
                            (try clear HB)
                            generalize ((w50.setCell ⟨gb279, 0, none⟩ (.int .i64 ((rd_T30 l0_1 x51_2).f0))).setCell ⟨gb279, 1, none⟩ (.slice A278_1 ((rd_T30 l0_1 x51_2).f1).length c278_1)) = w54 at n0_ n1_ n2_ n3_ ⊢
                            have BK266 := n0_
                            have BK267 := n1_
                            have BK279 := n2_
                            have HB := n3_
                            clear n0_ n1_ n2_ n3_
                            have n0_ := Aside0.mk (blk_drew BK266.out)
                            have n1_ := Aside0.mk (blk_drew BK267.out)
                            have n2_ := Aside0.mk (blk_drew BK279.out)
                            have n3_ := Aside0.mk (below_drew1 HB.out)
                            clear BK266
                            clear BK267
                            clear BK279
                            clear HB
                            have BK266 := n0_
                            have BK267 := n1_
                            have BK279 := n2_
                            have HB := n3_
                            clear n0_ n1_ n2_ n3_
                            have p280 : 0 ≤ (x51_2 : Int) := of_decide_eq_true (by first | (with_reducible assumption) | assumption)
                            have q280 : x51_2 < (l1_1.length : Int) := of_decide_eq_true (by first | (with_reducible assumption) | assumption)
                            obtain ⟨ad280, A280_1, c280_1, e280, hx280_0, hx280_1, hl280_1, hi280_1⟩ := at_T30 HR1_1.out x51_2 p280 q280
                            have hw280_1 := hx280_1
                            have hw280_0 := hx280_0
                            cases e280
                            replace hx280_0 := (HB.out.cell (World.block_lt_of_cell? w _ hx280_0)).trans hx280_0
                            replace hx280_1 := (HB.out.cell (World.block_lt_of_cell? w _ hx280_1)).trans hx280_1
                            have HR280_1 := Aside0.mk hi280_1
                            have HC280_1 := Aside0.mk hl280_1
                            clear hi280_1 hl280_1
                            replace p280 := eq_true p280
                            replace q280 := eq_true q280
                            refine start_ (n := 8) (S := fun w' => w'.cell? ⟨gb279, 0, none⟩ = some (.int .i64 ((rd_T30 l0_1 x51_2).f0)) ∧ w'.cell? ⟨gb279, 1, none⟩ = some (.slice A278_1 ((rd_T30 l0_1 x51_2).f1).length c278_1) ∧ w'.cell? ⟨gb267, 0, none⟩ = some (.int .i64 a1_0) ∧ w'.cell? ⟨gb267, 1, none⟩ = some (.slice (some ad280) l1_1.length c1_1) ∧ w'.cell? (ad280.add ((x51_2).toNat * 2)) = some (.int .i64 ((rd_T30 l1_1 x51_2).f0)) ∧ w'.cell? ⟨(ad280.add ((x51_2).toNat * 2)).block, (ad280.add ((x51_2).toNat * 2)).off + 1, none⟩ = some (.slice A280_1 ((rd_T30 l1_1 x51_2).f1).length c280_1)) (ds := []) #[false, false, false, false, false, false, false, false] (by kernel_rfl) rfl rfl ⟨(blk_cell BK279.out 0).trans rfl, (blk_cell BK279.out 1).trans rfl, (blk_cell BK267.out 0).trans rfl, (blk_cell BK267.out 1).trans rfl, ((HB.out.cell (World.block_lt_of_cell? w _ hw280_0)).trans hw280_0), ((HB.out.cell (World.block_lt_of_cell? w _ hw280_1)).trans hw280_1)⟩ (fun hHeld => ?_); refine with_tabW kbo_Greater.tab14 kbo_Greater.bits14 (fun HT_ HW_ => ?_)
                            generalize w54.drew = w55 at BK266 BK267 BK279 HB HR280_1 hx280_0 hx280_1 hHeld ⊢
                            refine pure_ (i := 1) (N := some 57) (v := ?_) (a' := ?_) #[false, true, false, false, false, false, false, false] rfl rfl (any_of HT_.out (by kernel_rfl)) (fun _ _ _ h => h) (Or.inl ⟨by rfl, ?_⟩) ?_ ?_
                            rotate_left
                            · intro w'
                              go_simp
                              with_reducible rfl
                            rotate_left
                            · simp only [Act.put, List.setIfInBounds_toArray, List.set_cons_zero, List.set_cons_succ, i64_w, i32_w]
                              rfl
                            refine pure_ (i := 3) (N := some 59) (v := ?_) (a' := ?_) #[false, true, false, true, false, false, false, false] rfl rfl (any_of HT_.out (by kernel_rfl)) (fun _ _ _ h => h) (Or.inl ⟨by rfl, ?_⟩) ?_ ?_
                            rotate_left
                            · intro w'
                              go_simp
                              with_reducible rfl
                            rotate_left
                            · simp only [Act.put, List.setIfInBounds_toArray, List.set_cons_zero, List.set_cons_succ, i64_w, i32_w]
                              rfl
                            refine take_ (i := 0) (N := some 56) (v := ?_) (a' := ?_) #[true, true, false, true, false, false, false, false] rfl rfl (take_ofW HT_.out HW_.out (by kernel_rfl)) (fun _ _ _ h => h) (Or.inl ⟨by rfl, ?_⟩) hHeld ?_ ?_
                            rotate_left
                            · rintro w' ⟨s0, s1, s2, s3, s4, s5⟩
                              go_simp
                              with_reducible rfl
                            rotate_left
                            · simp only [Act.put, List.setIfInBounds_toArray, List.set_cons_zero, List.set_cons_succ, i64_w, i32_w]
                              rfl
                            refine take_ (i := 2) (N := some 58) (v := ?_) (a' := ?_) #[true, true, true, true, false, false, false, false] rfl rfl (take_ofW HT_.out HW_.out (by kernel_rfl)) (fun _ _ _ h => h) (Or.inl ⟨by rfl, ?_⟩) hHeld ?_ ?_
                            rotate_left
                            · rintro w' ⟨s0, s1, s2, s3, s4, s5⟩
                              go_simp
                              with_reducible rfl
                            rotate_left
                            · simp only [Act.put, List.setIfInBounds_toArray, List.set_cons_zero, List.set_cons_succ, i64_w, i32_w]
                              rfl
                            refine pure_ (i := 4) (N := some 60) (v := ?_) (a' := ?_) #[true, true, true, true, true, false, false, false] rfl rfl (any_of HT_.out (by kernel_rfl)) (fun _ _ _ h => h) (Or.inl ⟨by rfl, ?_⟩) ?_ ?_
                            rotate_left
                            · intro w'
                              go_simp
                              with_reducible rfl
                            rotate_left
                            · simp only [Act.put, List.setIfInBounds_toArray, List.set_cons_zero, List.set_cons_succ, i64_w, i32_w]
                              rfl
                            refine take_ (i := 5) (N := some 61) (v := ?_) (a' := ?_) #[true, true, true, true, true, true, false, false] rfl rfl (take_ofW HT_.out HW_.out (by kernel_rfl)) (fun _ _ _ h => h) (Or.inl ⟨by rfl, ?_⟩) hHeld ?_ ?_
                            rotate_left
                            · rintro w' ⟨s0, s1, s2, s3, s4, s5⟩
                              go_simp
                              with_reducible rfl
                            rotate_left
                            · simp only [Act.put, List.setIfInBounds_toArray, List.set_cons_zero, List.set_cons_succ, i64_w, i32_w]
                              rfl
                            refine one_ (i := 6) (N := some 62) #[true, true, true, true, true, true, true, false] rfl rfl (one_of HT_.out (by kernel_rfl)) (by decide) (fun K hK => ?_)
                            refine goes_ Try.func37 (by kernel_rfl) rfl #[.agg #[.int .i64 ((rd_T30 l0_1 x51_2).f0), .slice A278_1 ((rd_T30 l0_1 x51_2).f1).length c278_1], .agg #[.int .i64 ((rd_T30 l1_1 x51_2).f0), .slice A280_1 ((rd_T30 l1_1 x51_2).f1).length c280_1]] (by rfl) rfl rfl (by (try simp only [List.map_toArray, List.map_cons, List.map_nil]); first | done | rfl | (simp only [List.length_drop, List.length_take]; rfl)) ?_
                            with_reducible refine (term_Same.calls ((rd_T30 l0_1 x51_2).f0) _ _ ((rd_T30 l0_1 x51_2).f1) ((rd_T30 l1_1 x51_2).f0) _ _ ((rd_T30 l1_1 x51_2).f1) false _ ?side1 ?side2 ?side3 ?side4 A40.out).mono ?_
                            (case side1 => repeat (first | exact (Kd.C_below HR278_1.out HB.out) | (with_reducible refine Kd.C_alloc ?_ _) | (with_reducible refine Kd.C_drewN ?_ _) | (with_reducible refine Kd.C_drew ?_)))
                            (case side2 => exact HC278_1.out)
                            (case side3 => repeat (first | exact (Kd.C_below HR280_1.out HB.out) | (with_reducible refine Kd.C_alloc ?_ _) | (with_reducible refine Kd.C_drewN ?_ _) | (with_reducible refine Kd.C_drew ?_)))
                            (case side4 => exact HC280_1.out)
                            rintro e w56 ⟨rfl, hb⟩
                            refine ⟨_, rfl, ?_⟩
                            have n0_ := Aside0.mk (blk_below (g := gb266) (o := .cells #[.int .i64 a0_0, .slice (some ad278) l0_1.length c0_1] 30 (0, 0)) (by (with_reducible repeat (first | refine blk_drewN ?_ _ | refine blk_drew ?_ | refine blk_alloc ?_ _)); exact BK266.out) hb)
                            have n1_ := Aside0.mk (blk_below (g := gb267) (o := .cells #[.int .i64 a1_0, .slice (some ad280) l1_1.length c1_1] 30 (0, 0)) (by (with_reducible repeat (first | refine blk_drewN ?_ _ | refine blk_drew ?_ | refine blk_alloc ?_ _)); exact BK267.out) hb)
                            have n2_ := Aside0.mk (blk_below (g := gb279) (o := .cells #[.int .i64 ((rd_T30 l0_1 x51_2).f0), .slice A278_1 ((rd_T30 l0_1 x51_2).f1).length c278_1] 30 (0, 0)) (by (with_reducible repeat (first | refine blk_drewN ?_ _ | refine blk_drew ?_ | refine blk_alloc ?_ _)); exact BK279.out) hb)
                            have n3_ := Aside0.mk (below_step (by repeat (first | (with_reducible first | exact HB.out | apply below_alloc | apply pw_below_drewN | apply below_drew1 | refine below_set ?_ GE266.out | refine below_set ?_ GE267.out | refine below_set ?_ GE279.out) | exact HB.out)) hb)
                            clear BK266
                            clear BK267
                            clear BK279
                            clear HB
                            have BK266 := n0_
                            have BK267 := n1_
                            have BK279 := n2_
                            have HB := n3_
                            clear n0_ n1_ n2_ n3_
                            (try clear hb)
                            (try clear hb2)
                            (try clear hk)
                            (try clear hi)
                            refine hK.out _ _ ⟨(blk_cell BK279.out 0).trans rfl, (blk_cell BK279.out 1).trans rfl, (blk_cell BK267.out 0).trans rfl, (blk_cell BK267.out 1).trans rfl, ((HB.out.cell (World.block_lt_of_cell? w _ hw280_0)).trans hw280_0), ((HB.out.cell (World.block_lt_of_cell? w _ hw280_1)).trans hw280_1)⟩ (fun hHeld => ?_)
                            clear hK K
                            refine norm_ (a' := ?_) ?_ ?_
                            rotate_left
                            · show Act.put _ (some 62) _ = _
                              simp only [Act.put, List.setIfInBounds_toArray, List.set_cons_zero, List.set_cons_succ, i64_w, i32_w]
                              rfl
                            refine pure_ (i := 7) (N := some 63) (v := ?_) (a' := ?_) #[true, true, true, true, true, true, true, true] rfl rfl (any_of HT_.out (by kernel_rfl)) (fun _ _ _ h => h) (Or.inl ⟨by rfl, ?_⟩) ?_ ?_
                            rotate_left
                            · intro w'
                              go_simp
                              with_reducible rfl
                            rotate_left
                            · simp only [Act.put, List.setIfInBounds_toArray, List.set_cons_zero, List.set_cons_succ, i64_w, i32_w]
                              rfl
                            refine done_ (done_of HT_.out (by kernel_rfl)) ?_
                            try go_wp2
                            have n0_ := Aside0.mk (blk_drew BK266.out)
                            have n1_ := Aside0.mk (blk_drew BK267.out)
                            have n2_ := Aside0.mk (blk_drew BK279.out)
                            have n3_ := Aside0.mk (below_drew1 HB.out)
                            clear BK266
                            clear BK267
                            clear BK279
                            clear HB
                            have BK266 := n0_
                            have BK267 := n1_
                            have BK279 := n2_
                            have HB := n3_
                            clear n0_ n1_ n2_ n3_
                            have p282 : 0 ≤ (x51_2 : Int) := of_decide_eq_true (by first | (with_reducible assumption) | assumption)
                            have q282 : x51_2 < (l1_1.length : Int) := of_decide_eq_true (by first | (with_reducible assumption) | assumption)
                            obtain ⟨ad282, A282_1, c282_1, e282, hx282_0, hx282_1, hl282_1, hi282_1⟩ := at_T30 HR1_1.out x51_2 p282 q282
                            have hw282_1 := hx282_1
                            have hw282_0 := hx282_0
                            obtain rfl : ad280 = ad282 := (by injection e282)
                            replace hx282_0 := (HB.out.cell (World.block_lt_of_cell? w _ hx282_0)).trans hx282_0
                            replace hx282_1 := (HB.out.cell (World.block_lt_of_cell? w _ hx282_1)).trans hx282_1
                            have HR282_1 := Aside0.mk hi282_1
                            have HC282_1 := Aside0.mk hl282_1
                            clear hi282_1 hl282_1
                            replace p282 := eq_true p282
                            replace q282 := eq_true q282
                            refine start_ (n := 8) (S := fun w' => w'.cell? ⟨gb279, 0, none⟩ = some (.int .i64 ((rd_T30 l0_1 x51_2).f0)) ∧ w'.cell? ⟨gb279, 1, none⟩ = some (.slice A278_1 ((rd_T30 l0_1 x51_2).f1).length c278_1) ∧ w'.cell? ⟨gb267, 0, none⟩ = some (.int .i64 a1_0) ∧ w'.cell? ⟨gb267, 1, none⟩ = some (.slice (some ad280) l1_1.length c1_1) ∧ w'.cell? (ad280.add ((x51_2).toNat * 2)) = some (.int .i64 ((rd_T30 l1_1 x51_2).f0)) ∧ w'.cell? ⟨(ad280.add ((x51_2).toNat * 2)).block, (ad280.add ((x51_2).toNat * 2)).off + 1, none⟩ = some (.slice A282_1 ((rd_T30 l1_1 x51_2).f1).length c282_1)) (ds := []) #[false, false, false, false, false, false, false, false] (by kernel_rfl) rfl rfl ⟨(blk_cell BK279.out 0).trans rfl, (blk_cell BK279.out 1).trans rfl, (blk_cell BK267.out 0).trans rfl, (blk_cell BK267.out 1).trans rfl, ((HB.out.cell (World.block_lt_of_cell? w _ hw282_0)).trans hw282_0), ((HB.out.cell (World.block_lt_of_cell? w _ hw282_1)).trans hw282_1)⟩ (fun hHeld => ?_); refine with_tabW kbo_Greater.tab15 kbo_Greater.bits15 (fun HT_ HW_ => ?_)
                            generalize w56.drew = w57 at BK266 BK267 BK279 HB HR282_1 hx282_0 hx282_1 hHeld ⊢
                            refine pure_ (i := 1) (N := some 65) (v := ?_) (a' := ?_) #[false, true, false, false, false, false, false, false] rfl rfl (any_of HT_.out (by kernel_rfl)) (fun _ _ _ h => h) (Or.inl ⟨by rfl, ?_⟩) ?_ ?_
                            rotate_left
                            · intro w'
                              go_simp
                              with_reducible rfl
                            rotate_left
                            · simp only [Act.put, List.setIfInBounds_toArray, List.set_cons_zero, List.set_cons_succ, i64_w, i32_w]
                              rfl
                            refine pure_ (i := 3) (N := some 67) (v := ?_) (a' := ?_) #[false, true, false, true, false, false, false, false] rfl rfl (any_of HT_.out (by kernel_rfl)) (fun _ _ _ h => h) (Or.inl ⟨by rfl, ?_⟩) ?_ ?_
                            rotate_left
                            · intro w'
                              go_simp
                              with_reducible rfl
                            rotate_left
                            · simp only [Act.put, List.setIfInBounds_toArray, List.set_cons_zero, List.set_cons_succ, i64_w, i32_w]
                              rfl
                            refine take_ (i := 0) (N := some 64) (v := ?_) (a' := ?_) #[true, true, false, true, false, false, false, false] rfl rfl (take_ofW HT_.out HW_.out (by kernel_rfl)) (fun _ _ _ h => h) (Or.inl ⟨by rfl, ?_⟩) hHeld ?_ ?_
                            rotate_left
                            · rintro w' ⟨s0, s1, s2, s3, s4, s5⟩
                              go_simp
                              with_reducible rfl
                            rotate_left
                            · simp only [Act.put, List.setIfInBounds_toArray, List.set_cons_zero, List.set_cons_succ, i64_w, i32_w]
                              rfl
                            refine take_ (i := 2) (N := some 66) (v := ?_) (a' := ?_) #[true, true, true, true, false, false, false, false] rfl rfl (take_ofW HT_.out HW_.out (by kernel_rfl)) (fun _ _ _ h => h) (Or.inl ⟨by rfl, ?_⟩) hHeld ?_ ?_
                            rotate_left
                            · rintro w' ⟨s0, s1, s2, s3, s4, s5⟩
                              go_simp
                              with_reducible rfl
                            rotate_left
                            · simp only [Act.put, List.setIfInBounds_toArray, List.set_cons_zero, List.set_cons_succ, i64_w, i32_w]
                              rfl
                            refine pure_ (i := 4) (N := some 68) (v := ?_) (a' := ?_) #[true, true, true, true, true, false, false, false] rfl rfl (any_of HT_.out (by kernel_rfl)) (fun _ _ _ h => h) (Or.inl ⟨by rfl, ?_⟩) ?_ ?_
                            rotate_left
                            · intro w'
                              go_simp
                              with_reducible rfl
                            rotate_left
                            · simp only [Act.put, List.setIfInBounds_toArray, List.set_cons_zero, List.set_cons_succ, i64_w, i32_w]
                              rfl
                            refine take_ (i := 5) (N := some 69) (v := ?_) (a' := ?_) #[true, true, true, true, true, true, false, false] rfl rfl (take_ofW HT_.out HW_.out (by kernel_rfl)) (fun _ _ _ h => h) (Or.inl ⟨by rfl, ?_⟩) hHeld ?_ ?_
                            rotate_left
                            · rintro w' ⟨s0, s1, s2, s3, s4, s5⟩
                              go_simp
                              with_reducible rfl
                            rotate_left
                            · simp only [Act.put, List.setIfInBounds_toArray, List.set_cons_zero, List.set_cons_succ, i64_w, i32_w]
                              rfl
                            refine one_ (i := 6) (N := some 70) #[true, true, true, true, true, true, true, false] rfl rfl (one_of HT_.out (by kernel_rfl)) (by decide) (fun K hK => ?_)
                            refine goes_ Try.func41 (by kernel_rfl) rfl #[.agg #[.int .i64 ((rd_T30 l0_1 x51_2).f0), .slice A278_1 ((rd_T30 l0_1 x51_2).f1).length c278_1], .agg #[.int .i64 ((rd_T30 l1_1 x51_2).f0), .slice A282_1 ((rd_T30 l1_1 x51_2).f1).length c282_1]] (by rfl) rfl rfl (by (try simp only [List.map_toArray, List.map_cons, List.map_nil]); first | done | rfl | (simp only [List.length_drop, List.length_take]; rfl)) ?_
                            with_reducible refine (ih k2 (by have := HJ8.out; have := HK2.out; omega) ((rd_T30 l0_1 x51_2).f0) _ _ ((rd_T30 l0_1 x51_2).f1) ((rd_T30 l1_1 x51_2).f0) _ _ ((rd_T30 l1_1 x51_2).f1) t283 _ ?side1 ?side2 ?side3 ?side4 A49.out).mono ?_
                            (case side1 => repeat (first | exact (Kd.C_below HR278_1.out HB.out) | (with_reducible refine Kd.C_alloc ?_ _) | (with_reducible refine Kd.C_drewN ?_ _) | (with_reducible refine Kd.C_drew ?_)))
                            (case side2 => exact HC278_1.out)
                            (case side3 => repeat (first | exact (Kd.C_below HR282_1.out HB.out) | (with_reducible refine Kd.C_alloc ?_ _) | (with_reducible refine Kd.C_drewN ?_ _) | (with_reducible refine Kd.C_drew ?_)))
                            (case side4 => exact HC282_1.out)
                            rintro e w58 ⟨rfl, hb⟩
                            refine ⟨_, rfl, ?_⟩
                            have n0_ := Aside0.mk (blk_below (g := gb266) (o := .cells #[.int .i64 a0_0, .slice (some ad278) l0_1.length c0_1] 30 (0, 0)) (by (with_reducible repeat (first | refine blk_drewN ?_ _ | refine blk_drew ?_ | refine blk_alloc ?_ _)); exact BK266.out) hb)
                            have n1_ := Aside0.mk (blk_below (g := gb267) (o := .cells #[.int .i64 a1_0, .slice (some ad280) l1_1.length c1_1] 30 (0, 0)) (by (with_reducible repeat (first | refine blk_drewN ?_ _ | refine blk_drew ?_ | refine blk_alloc ?_ _)); exact BK267.out) hb)
                            have n2_ := Aside0.mk (blk_below (g := gb279) (o := .cells #[.int .i64 ((rd_T30 l0_1 x51_2).f0), .slice A278_1 ((rd_T30 l0_1 x51_2).f1).length c278_1] 30 (0, 0)) (by (with_reducible repeat (first | refine blk_drewN ?_ _ | refine blk_drew ?_ | refine blk_alloc ?_ _)); exact BK279.out) hb)
                            have n3_ := Aside0.mk (below_step (by repeat (first | (with_reducible first | exact HB.out | apply below_alloc | apply pw_below_drewN | apply below_drew1 | refine below_set ?_ GE266.out | refine below_set ?_ GE267.out | refine below_set ?_ GE279.out) | exact HB.out)) hb)
                            clear BK266
                            clear BK267
                            clear BK279
                            clear HB
                            have BK266 := n0_
                            have BK267 := n1_
                            have BK279 := n2_
                            have HB := n3_
                            clear n0_ n1_ n2_ n3_
                            (try clear hb)
                            (try clear hb2)
                            (try clear hk)
                            (try clear hi)
                            refine hK.out _ _ ⟨(blk_cell BK279.out 0).trans rfl, (blk_cell BK279.out 1).trans rfl, (blk_cell BK267.out 0).trans rfl, (blk_cell BK267.out 1).trans rfl, ((HB.out.cell (World.block_lt_of_cell? w _ hw282_0)).trans hw282_0), ((HB.out.cell (World.block_lt_of_cell? w _ hw282_1)).trans hw282_1)⟩ (fun hHeld => ?_)
                            clear hK K
                            refine norm_ (a' := ?_) ?_ ?_
                            rotate_left
                            · show Act.put _ (some 70) _ = _
                              simp only [Act.put, List.setIfInBounds_toArray, List.set_cons_zero, List.set_cons_succ, i64_w, i32_w]
                              rfl
                            refine pure_ (i := 7) (N := some 4) (v := ?_) (a' := ?_) #[true, true, true, true, true, true, true, true] rfl rfl (any_of HT_.out (by kernel_rfl)) (fun _ _ _ h => h) (Or.inl ⟨by rfl, ?_⟩) ?_ ?_
                            rotate_left
                            · intro w'
                              go_simp
                              with_reducible rfl
                            rotate_left
                            · simp only [Act.put, List.setIfInBounds_toArray, List.set_cons_zero, List.set_cons_succ, i64_w, i32_w]
                              rfl
                            refine done_ (done_of HT_.out (by kernel_rfl)) ?_
                            try go_wp2
                            go_ret
                            exact ⟨by first | rfl | (simp [errW_none, errW_some] <;> rfl) | (simp [*, errW_none, errW_some] <;> rfl), by repeat (first | (with_reducible first | exact HB.out | apply below_alloc | apply pw_below_drewN | apply below_drew1 | refine below_set ?_ GE266.out | refine below_set ?_ GE267.out | refine below_set ?_ GE279.out) | exact HB.out)⟩
                        · rw [if_neg c39] at H
                          exact absurd H (by simp)
                      · rw [if_neg c38] at H
                        exact absurd H (by simp)
                    · rw [if_neg c37] at H
                      exact absurd H (by simp)
                  · rw [if_neg c36] at H
                    have c36b0 : decide (x51_2 < (l0_1.length : Int)) = false := decide_eq_false c36
                    clear c36
                    obtain rfl := Option.some.inj H
                    go_wp2
                    go_ret
                    exact ⟨by first | rfl | (simp [errW_none, errW_some] <;> rfl) | (simp [*, errW_none, errW_some] <;> rfl), by repeat (first | (with_reducible first | exact HB.out | apply below_alloc | apply pw_below_drewN | apply below_drew1 | refine below_set ?_ GE266.out | refine below_set ?_ GE267.out) | exact HB.out)⟩
            · rw [if_neg c29] at H
              have c29b0 : (t277 == 0) = false := beq_eq_false_iff_ne.mpr c29
              have c29b1 : (t277 != 0) = true := bne_iff_ne.mpr c29
              obtain rfl := Option.some.inj H
              try go_wp2
              have n0_ := Aside0.mk (blk_drew BK266.out)
              have n1_ := Aside0.mk (blk_drew BK267.out)
              have n2_ := Aside0.mk (below_drew1 HB.out)
              clear BK266
              clear BK267
              clear HB
              have BK266 := n0_
              have BK267 := n1_
              have HB := n2_
              clear n0_ n1_ n2_
              refine start_ (n := 15) (S := fun w' => w'.cell? ⟨gb266, 0, none⟩ = some (.int .i64 a0_0) ∧ w'.cell? ⟨gb266, 1, none⟩ = some (.slice A0_1 l0_1.length c0_1) ∧ w'.cell? ⟨gb267, 0, none⟩ = some (.int .i64 a1_0) ∧ w'.cell? ⟨gb267, 1, none⟩ = some (.slice A1_1 l1_1.length c1_1)) (ds := []) #[false, false, false, false, false, false, false, false, false, false, false, false, false, false, false] (by kernel_rfl) rfl rfl ⟨(blk_cell BK266.out 0).trans rfl, (blk_cell BK266.out 1).trans rfl, (blk_cell BK267.out 0).trans rfl, (blk_cell BK267.out 1).trans rfl⟩ (fun hHeld => ?_); refine with_tabW kbo_Greater.tab8 kbo_Greater.bits8 (fun HT_ HW_ => ?_)
              generalize wc.drew = w59 at BK266 BK267 HB hHeld ⊢
              refine pure_ (i := 0) (N := some 30) (v := ?_) (a' := ?_) #[true, false, false, false, false, false, false, false, false, false, false, false, false, false, false] rfl rfl (any_of HT_.out (by kernel_rfl)) (fun _ _ _ h => h) (Or.inl ⟨by rfl, ?_⟩) ?_ ?_
              rotate_left
              · intro w'
                go_simp
                with_reducible rfl
              rotate_left
              · simp only [Act.put, List.setIfInBounds_toArray, List.set_cons_zero, List.set_cons_succ, i64_w, i32_w]
                rfl
              refine pure_ (i := 2) (N := some 32) (v := ?_) (a' := ?_) #[true, false, true, false, false, false, false, false, false, false, false, false, false, false, false] rfl rfl (any_of HT_.out (by kernel_rfl)) (fun _ _ _ h => h) (Or.inl ⟨by rfl, ?_⟩) ?_ ?_
              rotate_left
              · intro w'
                go_simp
                with_reducible rfl
              rotate_left
              · simp only [Act.put, List.setIfInBounds_toArray, List.set_cons_zero, List.set_cons_succ, i64_w, i32_w]
                rfl
              refine pure_ (i := 5) (N := some 35) (v := ?_) (a' := ?_) #[true, false, true, false, false, true, false, false, false, false, false, false, false, false, false] rfl rfl (any_of HT_.out (by kernel_rfl)) (fun _ _ _ h => h) (Or.inl ⟨by rfl, ?_⟩) ?_ ?_
              rotate_left
              · intro w'
                go_simp
                with_reducible rfl
              rotate_left
              · simp only [Act.put, List.setIfInBounds_toArray, List.set_cons_zero, List.set_cons_succ, i64_w, i32_w]
                rfl
              refine pure_ (i := 8) (N := some 38) (v := ?_) (a' := ?_) #[true, false, true, false, false, true, false, false, true, false, false, false, false, false, false] rfl rfl (any_of HT_.out (by kernel_rfl)) (fun _ _ _ h => h) (Or.inl ⟨by rfl, ?_⟩) ?_ ?_
              rotate_left
              · intro w'
                go_simp
                with_reducible rfl
              rotate_left
              · simp only [Act.put, List.setIfInBounds_toArray, List.set_cons_zero, List.set_cons_succ, i64_w, i32_w]
                rfl
              refine take_ (i := 1) (N := some 31) (v := ?_) (a' := ?_) #[true, true, true, false, false, true, false, false, true, false, false, false, false, false, false] rfl rfl (take_ofW HT_.out HW_.out (by kernel_rfl)) (fun _ _ _ h => h) (Or.inl ⟨by rfl, ?_⟩) hHeld ?_ ?_
              rotate_left
              · rintro w' ⟨s0, s1, s2, s3⟩
                go_simp
                with_reducible rfl
              rotate_left
              · simp only [Act.put, List.setIfInBounds_toArray, List.set_cons_zero, List.set_cons_succ, i64_w, i32_w]
                rfl
              refine take_ (i := 3) (N := some 33) (v := ?_) (a' := ?_) #[true, true, true, true, false, true, false, false, true, false, false, false, false, false, false] rfl rfl (take_ofW HT_.out HW_.out (by kernel_rfl)) (fun _ _ _ h => h) (Or.inl ⟨by rfl, ?_⟩) hHeld ?_ ?_
              rotate_left
              · rintro w' ⟨s0, s1, s2, s3⟩
                go_simp
                with_reducible rfl
              rotate_left
              · simp only [Act.put, List.setIfInBounds_toArray, List.set_cons_zero, List.set_cons_succ, i64_w, i32_w]
                rfl
              refine take_ (i := 6) (N := some 36) (v := ?_) (a' := ?_) #[true, true, true, true, false, true, true, false, true, false, false, false, false, false, false] rfl rfl (take_ofW HT_.out HW_.out (by kernel_rfl)) (fun _ _ _ h => h) (Or.inl ⟨by rfl, ?_⟩) hHeld ?_ ?_
              rotate_left
              · rintro w' ⟨s0, s1, s2, s3⟩
                go_simp
                with_reducible rfl
              rotate_left
              · simp only [Act.put, List.setIfInBounds_toArray, List.set_cons_zero, List.set_cons_succ, i64_w, i32_w]
                rfl
              refine pure_ (i := 7) (N := some 37) (v := ?_) (a' := ?_) #[true, true, true, true, false, true, true, true, true, false, false, false, false, false, false] rfl rfl (any_of HT_.out (by kernel_rfl)) (fun _ _ _ h => h) (Or.inl ⟨by rfl, ?_⟩) ?_ ?_
              rotate_left
              · intro w'
                go_simp
                with_reducible rfl
              rotate_left
              · simp only [Act.put, List.setIfInBounds_toArray, List.set_cons_zero, List.set_cons_succ, i64_w, i32_w]
                rfl
              refine take_ (i := 9) (N := some 39) (v := ?_) (a' := ?_) #[true, true, true, true, false, true, true, true, true, true, false, false, false, false, false] rfl rfl (take_ofW HT_.out HW_.out (by kernel_rfl)) (fun _ _ _ h => h) (Or.inl ⟨by rfl, ?_⟩) hHeld ?_ ?_
              rotate_left
              · rintro w' ⟨s0, s1, s2, s3⟩
                go_simp
                with_reducible rfl
              rotate_left
              · simp only [Act.put, List.setIfInBounds_toArray, List.set_cons_zero, List.set_cons_succ, i64_w, i32_w]
                rfl
              refine pure_ (i := 10) (N := some 40) (v := ?_) (a' := ?_) #[true, true, true, true, false, true, true, true, true, true, true, false, false, false, false] rfl rfl (any_of HT_.out (by kernel_rfl)) (fun _ _ _ h => h) (Or.inl ⟨by rfl, ?_⟩) ?_ ?_
              rotate_left
              · intro w'
                go_simp
                with_reducible rfl
              rotate_left
              · simp only [Act.put, List.setIfInBounds_toArray, List.set_cons_zero, List.set_cons_succ, i64_w, i32_w]
                rfl
              refine one_ (i := 4) (N := some 34) #[true, true, true, true, true, true, true, true, true, true, true, false, false, false, false] rfl rfl (one_of HT_.out (by kernel_rfl)) (by decide) (fun K hK => ?_)
              refine goes_ Try.func76 (by kernel_rfl) rfl #[.int .i64 a0_0, .int .i64 a1_0] (by rfl) rfl rfl (by (try simp only [List.map_toArray, List.map_cons, List.map_nil]); first | done | rfl | (simp only [List.length_drop, List.length_take]; rfl)) ?_
              with_reducible refine (cmp_Compare_int.calls a0_0 a1_0 t272 _ A26.out).mono ?_
              rintro e w' ⟨rfl, ⟨nd, rfl⟩⟩
              refine ⟨_, rfl, ?_⟩
              refine hK.out _ _ ⟨(blk_cell BK266.out 0).trans rfl, (blk_cell BK266.out 1).trans rfl, (blk_cell BK267.out 0).trans rfl, (blk_cell BK267.out 1).trans rfl⟩ (fun hHeld => ?_)
              clear hK K
              refine norm_ (a' := ?_) ?_ ?_
              rotate_left
              · show Act.put _ (some 34) _ = _
                simp only [Act.put, List.setIfInBounds_toArray, List.set_cons_zero, List.set_cons_succ, i64_w, i32_w]
                rfl
              refine one_ (i := 11) (N := some 41) #[true, true, true, true, true, true, true, true, true, true, true, true, false, false, false] rfl rfl (one_of HT_.out (by kernel_rfl)) (by decide) (fun K hK => ?_)
              refine goes_ Try.func76 (by kernel_rfl) rfl #[.int .i64 (l0_1.length : Int), .int .i64 (l1_1.length : Int)] (by rfl) rfl rfl (by (try simp only [List.map_toArray, List.map_cons, List.map_nil]); first | done | rfl | (simp only [List.length_drop, List.length_take]; rfl)) ?_
              with_reducible refine (cmp_Compare_int.calls (l0_1.length : Int) (l1_1.length : Int) t273 _ A27.out).mono ?_
              rintro e w' ⟨rfl, ⟨nd, rfl⟩⟩
              refine ⟨_, rfl, ?_⟩
              refine hK.out _ _ ⟨(blk_cell BK266.out 0).trans rfl, (blk_cell BK266.out 1).trans rfl, (blk_cell BK267.out 0).trans rfl, (blk_cell BK267.out 1).trans rfl⟩ (fun hHeld => ?_)
              clear hK K
              refine norm_ (a' := ?_) ?_ ?_
              rotate_left
              · show Act.put _ (some 41) _ = _
                simp only [Act.put, List.setIfInBounds_toArray, List.set_cons_zero, List.set_cons_succ, i64_w, i32_w]
                rfl
              refine one_ (i := 12) (N := some 42) #[true, true, true, true, true, true, true, true, true, true, true, true, true, false, false] rfl rfl (one_of HT_.out (by kernel_rfl)) (by decide) (fun K hK => ?_)
              refine Kd.R_lit_step (Kd.int .i64) _ 3 ?hg (N := 42) ?hd (xs := ([t272, t273] : List Int)) (inner := [.int .i64 t272, .int .i64 t273]) (ok := fun _ => True) (okp := fun _ => True) ?hr ?hp (fun _ hk => hk) trivial (Below.refl _ _) (Nat.le_refl _) (by simp) ?_; (case hd => rfl); (case hg => rfl); (case hr => first | (go_simp; done) | (go_simp; rfl)); (case hp => exact (Reps.one (show Kd.M (Kd.int .i64) _ _ _ t272 [.int .i64 t272] from rfl) (Reps.one (show Kd.M (Kd.int .i64) _ _ _ t273 [.int .i64 t273] from rfl) (Reps.none _ _))))
              intro v275 w60 ho61 hb hg_ hnew_
              clear hg_ hnew_
              (first | rw [← Ny274.out] at ho61 | (simp only [Int.reduceToNat] at ho61; rw [← Ny274.out] at ho61))
              have n0_ := Aside0.mk (Kd.R_lower ho61 (below_size (by repeat (first | (with_reducible first | exact HB.out | apply below_alloc | apply pw_below_drewN | apply below_drew1 | refine below_set ?_ GE266.out | refine below_set ?_ GE267.out) | exact HB.out))))
              have n1_ := Aside0.mk (blk_below (g := gb266) (o := .cells #[.int .i64 a0_0, .slice A0_1 l0_1.length c0_1] 30 (0, 0)) (by (with_reducible repeat (first | refine blk_drewN ?_ _ | refine blk_drew ?_ | refine blk_alloc ?_ _)); exact BK266.out) hb)
              have n2_ := Aside0.mk (blk_below (g := gb267) (o := .cells #[.int .i64 a1_0, .slice A1_1 l1_1.length c1_1] 30 (0, 0)) (by (with_reducible repeat (first | refine blk_drewN ?_ _ | refine blk_drew ?_ | refine blk_alloc ?_ _)); exact BK267.out) hb)
              have n3_ := Aside0.mk (below_step (by repeat (first | (with_reducible first | exact HB.out | apply below_alloc | apply pw_below_drewN | apply below_drew1 | refine below_set ?_ GE266.out | refine below_set ?_ GE267.out) | exact HB.out)) hb)
              clear BK266
              clear BK267
              clear HB
              have HO276 := n0_
              have BK266 := n1_
              have BK267 := n2_
              have HB := n3_
              clear n0_ n1_ n2_ n3_
              clear hb ho61
              obtain ⟨Ao62, co62, eo62⟩ := Kd.R_slice HO276.out
              (first | subst eo62 | (injection eo62 with f1_ f2_ f3_; have f4_ := f1_.symm; have f5_ := f3_.symm; clear f1_ f2_ f3_; subst f4_; subst f5_))
              refine hK.out _ _ ⟨(blk_cell BK266.out 0).trans rfl, (blk_cell BK266.out 1).trans rfl, (blk_cell BK267.out 0).trans rfl, (blk_cell BK267.out 1).trans rfl⟩ (fun hHeld => ?_)
              clear hK K
              refine norm_ (a' := ?_) ?_ ?_
              rotate_left
              · show Act.put _ (some 42) _ = _
                simp only [Act.put, List.setIfInBounds_toArray, List.set_cons_zero, List.set_cons_succ, i64_w, i32_w]
                rfl
              refine one_ (i := 13) (N := some 43) #[true, true, true, true, true, true, true, true, true, true, true, true, true, true, false] rfl rfl (one_of HT_.out (by kernel_rfl)) (by decide) (fun K hK => ?_)
              refine goes_ Try.func77 (by kernel_rfl) rfl #[.slice Ao62 y274.length co62] (by rfl) rfl rfl (by (try simp only [List.map_toArray, List.map_cons, List.map_nil]); first | done | rfl | (simp only [List.length_drop, List.length_take]; rfl)) ?_
              with_reducible refine (cmp_Or_int.calls kj8 _ _ y274 t277 _ ?side1 ?side2 A28.out).mono ?_
              (case side1 => repeat (first | exact (Kd.R_reads' HO276.out).2.2 | (with_reducible refine Kd.C_alloc ?_ _) | (with_reducible refine Kd.C_drewN ?_ _) | (with_reducible refine Kd.C_drew ?_)))
              (case side2 => exact (Kd.R_reads' HO276.out).2.1)
              rintro e w' ⟨rfl, ⟨nd, rfl⟩⟩
              refine ⟨_, rfl, ?_⟩
              refine hK.out _ _ ⟨(blk_cell BK266.out 0).trans rfl, (blk_cell BK266.out 1).trans rfl, (blk_cell BK267.out 0).trans rfl, (blk_cell BK267.out 1).trans rfl⟩ (fun hHeld => ?_)
              clear hK K
              refine norm_ (a' := ?_) ?_ ?_
              rotate_left
              · show Act.put _ (some 43) _ = _
                simp only [Act.put, List.setIfInBounds_toArray, List.set_cons_zero, List.set_cons_succ, i64_w, i32_w]
                rfl
              refine pure_ (i := 14) (N := some 6) (v := ?_) (a' := ?_) #[true, true, true, true, true, true, true, true, true, true, true, true, true, true, true] rfl rfl (any_of HT_.out (by kernel_rfl)) (fun _ _ _ h => h) (Or.inl ⟨by rfl, ?_⟩) ?_ ?_
              rotate_left
              · intro w'
                go_simp
                with_reducible rfl
              rotate_left
              · simp only [Act.put, List.setIfInBounds_toArray, List.set_cons_zero, List.set_cons_succ, i64_w, i32_w]
                rfl
              refine done_ (done_of HT_.out (by kernel_rfl)) ?_
              try go_wp2
              go_ret
              exact ⟨by first | rfl | (simp [errW_none, errW_some] <;> rfl) | (simp [*, errW_none, errW_some] <;> rfl), by repeat (first | (with_reducible first | exact HB.out | apply below_alloc | apply pw_below_drewN | apply below_drew1 | refine below_set ?_ GE266.out | refine below_set ?_ GE267.out) | exact HB.out)⟩
    · rw [if_neg c8] at H
      have c8b0 : (t271 == 0) = false := beq_eq_false_iff_ne.mpr c8
      have c8b1 : (t271 != 0) = true := bne_iff_ne.mpr c8
      obtain rfl := Option.some.inj H
      go_enter Try.func41, Try.ntmps41
      try go_wp2_with (first | ((with_reducible refine gate_dst (N := 2) rfl ?_); refine box_event ?hg (N := 2) ?hd (cs := #[.int .i64 a0_0, .slice A0_1 l0_1.length c0_1]) (t := 30) ?hr ?_; (case hd => rfl); (case hg => rfl); (case hr => first | (go_simp; done) | (go_simp; rfl)); intro gb266 hg w63 hbox hb; have n0_ := Aside0.mk (below_step (by repeat (first | (with_reducible first | exact HB.out | apply below_alloc | apply pw_below_drewN | apply below_drew1) | exact HB.out)) hb); have n1_ := Aside0.mk (hbox); have n2_ := Aside0.mk ((by rw [hg]; exact (below_size (by repeat (first | (with_reducible first | exact HB.out | apply below_alloc | apply pw_below_drewN | apply below_drew1) | exact HB.out))) : w.heap.size ≤ gb266)); have n3_ := Aside0.mk ((by rw [hg]; exact (below_size (by repeat (first | (with_reducible first | exact HB.out | apply below_alloc | apply pw_below_drewN | apply below_drew1) | exact HB.out))) : w.heap.size ≤ gb266)); clear HB; have HB := n0_; have BK266 := n1_; have GW266 := n2_; have GE266 := n3_; clear n0_ n1_ n2_ n3_; clear hb hbox hg) | ((with_reducible refine gate_dst (N := 3) rfl ?_); refine box_event ?hg (N := 3) ?hd (cs := #[.int .i64 a1_0, .slice A1_1 l1_1.length c1_1]) (t := 30) ?hr ?_; (case hd => rfl); (case hg => rfl); (case hr => first | (go_simp; done) | (go_simp; rfl)); intro gb267 hg w64 hbox hb; have n0_ := Aside0.mk (blk_below (g := gb266) (o := .cells #[.int .i64 a0_0, .slice A0_1 l0_1.length c0_1] 30 (0, 0)) (by (with_reducible repeat (first | refine blk_drewN ?_ _ | refine blk_drew ?_ | refine blk_alloc ?_ _)); exact BK266.out) hb); have n1_ := Aside0.mk (below_step (by repeat (first | (with_reducible first | exact HB.out | apply below_alloc | apply pw_below_drewN | apply below_drew1 | refine below_set ?_ GE266.out) | exact HB.out)) hb); have n2_ := Aside0.mk (hbox); have n3_ := Aside0.mk ((by rw [hg]; exact (below_size (by repeat (first | (with_reducible first | exact HB.out | apply below_alloc | apply pw_below_drewN | apply below_drew1 | refine below_set ?_ GE266.out) | exact HB.out))) : w.heap.size ≤ gb267)); have n4_ := Aside0.mk ((by rw [hg]; exact (below_size (by repeat (first | (with_reducible first | exact HB.out | apply below_alloc | apply pw_below_drewN | apply below_drew1 | refine below_set ?_ GE266.out) | exact HB.out))) : w.heap.size ≤ gb267)); have n5_ := Aside0.mk ((by rw [hg]; exact Nat.ne_of_lt (blk_lt (g := gb266) (o := .cells #[.int .i64 a0_0, .slice A0_1 l0_1.length c0_1] 30 (0, 0)) (by (with_reducible repeat (first | refine blk_drewN ?_ _ | refine blk_drew ?_ | refine blk_alloc ?_ _)); exact BK266.out)) : gb266 ≠ gb267)); have n6_ := Aside0.mk ((by rw [hg]; exact Nat.ne_of_gt (blk_lt (g := gb266) (o := .cells #[.int .i64 a0_0, .slice A0_1 l0_1.length c0_1] 30 (0, 0)) (by (with_reducible repeat (first | refine blk_drewN ?_ _ | refine blk_drew ?_ | refine blk_alloc ?_ _)); exact BK266.out)) : gb267 ≠ gb266)); clear BK266; clear HB; have BK266 := n0_; have HB := n1_; have BK267 := n2_; have GW267 := n3_; have GE267 := n4_; have NB266_267 := n5_; have NB267_266 := n6_; clear n0_ n1_ n2_ n3_ n4_ n5_ n6_; clear hb hbox hg; have hnb65 := NB266_267.out; have hnc65 := NB267_266.out; have hcz66_0 : w64.cell? ⟨gb266, 0, none⟩ = some (.int .i64 a0_0) := (blk_cell BK266.out 0).trans rfl; have hcz66_1 : w64.cell? ⟨gb266, 1, none⟩ = some (.slice A0_1 l0_1.length c0_1) := (blk_cell BK266.out 1).trans rfl; have hfz66_0 := blk_frozen BK266.out 0; have hfz66_1 := blk_frozen BK266.out 1; have hcz67_0 : w64.cell? ⟨gb267, 0, none⟩ = some (.int .i64 a1_0) := (blk_cell BK267.out 0).trans rfl; have hcz67_1 : w64.cell? ⟨gb267, 1, none⟩ = some (.slice A1_1 l1_1.length c1_1) := (blk_cell BK267.out 1).trans rfl; have hfz67_0 := blk_frozen BK267.out 0; have hfz67_1 := blk_frozen BK267.out 1) | ((with_reducible refine gate_callee (f := 45) rfl ?_); refine goesL_ (some 11) rfl rfl Try.func45 (by kernel_rfl) rfl #[.agg #[.int .i64 a0_0, .slice A0_1 l0_1.length c0_1], .agg #[.int .i64 a1_0, .slice A1_1 l1_1.length c1_1]] rfl (by (try simp only [List.map_toArray, List.map_cons, List.map_nil]); first | done | rfl | (simp only [List.length_drop, List.length_take]; rfl)) ?_; (with_reducible refine (kbo_Covers.calls a0_0 _ _ l0_1 a1_0 _ _ l1_1 true _ ?side1 ?side2 ?side3 ?side4 A3.out).mono ?_); (case side1 => repeat (first | exact (Kd.C_below HR0_1.out HB.out) | (with_reducible refine Kd.C_alloc ?_ _) | (with_reducible refine Kd.C_drewN ?_ _) | (with_reducible refine Kd.C_drew ?_))); (case side2 => exact HC0_1.out); (case side3 => repeat (first | exact (Kd.C_below HR1_1.out HB.out) | (with_reducible refine Kd.C_alloc ?_ _) | (with_reducible refine Kd.C_drewN ?_ _) | (with_reducible refine Kd.C_drew ?_))); (case side4 => exact HC1_1.out); rintro e w68 ⟨rfl, hb⟩; refine ⟨_, rfl, ?_⟩; have n0_ := Aside0.mk (blk_below (g := gb266) (o := .cells #[.int .i64 a0_0, .slice A0_1 l0_1.length c0_1] 30 (0, 0)) (by (with_reducible repeat (first | refine blk_drewN ?_ _ | refine blk_drew ?_ | refine blk_alloc ?_ _)); exact BK266.out) hb); have n1_ := Aside0.mk (blk_below (g := gb267) (o := .cells #[.int .i64 a1_0, .slice A1_1 l1_1.length c1_1] 30 (0, 0)) (by (with_reducible repeat (first | refine blk_drewN ?_ _ | refine blk_drew ?_ | refine blk_alloc ?_ _)); exact BK267.out) hb); have n2_ := Aside0.mk (below_step (by repeat (first | (with_reducible first | exact HB.out | apply below_alloc | apply pw_below_drewN | apply below_drew1 | refine below_set ?_ GE266.out | refine below_set ?_ GE267.out) | exact HB.out)) hb); clear BK266; clear BK267; clear HB; have BK266 := n0_; have BK267 := n1_; have HB := n2_; clear n0_ n1_ n2_; (try clear hb); (try clear hb2); (try clear hk); (try clear hi)))
      have n0_ := Aside0.mk (blk_drew BK266.out)
      have n1_ := Aside0.mk (blk_drew BK267.out)
      have n2_ := Aside0.mk (below_drew1 HB.out)
      clear BK266
      clear BK267
      clear HB
      have BK266 := n0_
      have BK267 := n1_
      have HB := n2_
      clear n0_ n1_ n2_
      refine start_ (n := 6) (S := fun w' => w'.cell? ⟨gb266, 0, none⟩ = some (.int .i64 a0_0) ∧ w'.cell? ⟨gb266, 1, none⟩ = some (.slice A0_1 l0_1.length c0_1) ∧ w'.cell? ⟨gb267, 0, none⟩ = some (.int .i64 a1_0) ∧ w'.cell? ⟨gb267, 1, none⟩ = some (.slice A1_1 l1_1.length c1_1)) (ds := []) #[false, false, false, false, false, false] (by kernel_rfl) rfl rfl ⟨(blk_cell BK266.out 0).trans rfl, (blk_cell BK266.out 1).trans rfl, (blk_cell BK267.out 0).trans rfl, (blk_cell BK267.out 1).trans rfl⟩ (fun hHeld => ?_)
      generalize w68.drew = w69 at BK266 BK267 HB hHeld ⊢
      refine take_ (i := 0) (N := some 13) (v := ?_) (a' := ?_) #[true, false, false, false, false, false] rfl rfl (by kernel_rfl) (fun _ _ _ h => h) (Or.inl ⟨by rfl, ?_⟩) hHeld ?_ ?_
      rotate_left
      · rintro w' ⟨s0, s1, s2, s3⟩
        go_simp
        with_reducible rfl
      rotate_left
      · simp only [Act.put, List.setIfInBounds_toArray, List.set_cons_zero, List.set_cons_succ, i64_w, i32_w]
        rfl
      refine take_ (i := 2) (N := some 15) (v := ?_) (a' := ?_) #[true, false, true, false, false, false] rfl rfl (by kernel_rfl) (fun _ _ _ h => h) (Or.inl ⟨by rfl, ?_⟩) hHeld ?_ ?_
      rotate_left
      · rintro w' ⟨s0, s1, s2, s3⟩
        go_simp
        with_reducible rfl
      rotate_left
      · simp only [Act.put, List.setIfInBounds_toArray, List.set_cons_zero, List.set_cons_succ, i64_w, i32_w]
        rfl
      refine one_ (i := 1) (N := some 14) #[true, true, true, false, false, false] rfl rfl (by kernel_rfl) (by decide) (fun K hK => ?_)
      refine goes_ Try.func34 (by kernel_rfl) rfl #[.agg #[.int .i64 a0_0, .slice A0_1 l0_1.length c0_1]] (by rfl) rfl rfl (by (try simp only [List.map_toArray, List.map_cons, List.map_nil]); first | done | rfl | (simp only [List.length_drop, List.length_take]; rfl)) ?_
      with_reducible refine (term_Size.calls a0_0 _ _ l0_1 t269 _ ?side1 ?side2 A5.out).mono ?_
      (case side1 => repeat (first | exact (Kd.C_below HR0_1.out HB.out) | (with_reducible refine Kd.C_alloc ?_ _) | (with_reducible refine Kd.C_drewN ?_ _) | (with_reducible refine Kd.C_drew ?_)))
      (case side2 => exact HC0_1.out)
      rintro e w70 ⟨rfl, hb⟩
      refine ⟨_, rfl, ?_⟩
      have n0_ := Aside0.mk (blk_below (g := gb266) (o := .cells #[.int .i64 a0_0, .slice A0_1 l0_1.length c0_1] 30 (0, 0)) (by (with_reducible repeat (first | refine blk_drewN ?_ _ | refine blk_drew ?_ | refine blk_alloc ?_ _)); exact BK266.out) hb)
      have n1_ := Aside0.mk (blk_below (g := gb267) (o := .cells #[.int .i64 a1_0, .slice A1_1 l1_1.length c1_1] 30 (0, 0)) (by (with_reducible repeat (first | refine blk_drewN ?_ _ | refine blk_drew ?_ | refine blk_alloc ?_ _)); exact BK267.out) hb)
      have n2_ := Aside0.mk (below_step (by repeat (first | (with_reducible first | exact HB.out | apply below_alloc | apply pw_below_drewN | apply below_drew1 | refine below_set ?_ GE266.out | refine below_set ?_ GE267.out) | exact HB.out)) hb)
      clear BK266
      clear BK267
      clear HB
      have BK266 := n0_
      have BK267 := n1_
      have HB := n2_
      clear n0_ n1_ n2_
      (try clear hb)
      (try clear hb2)
      (try clear hk)
      (try clear hi)
      refine hK.out _ _ ⟨(blk_cell BK266.out 0).trans rfl, (blk_cell BK266.out 1).trans rfl, (blk_cell BK267.out 0).trans rfl, (blk_cell BK267.out 1).trans rfl⟩ (fun hHeld => ?_)
      clear hK K
      refine norm_ (a' := ?_) ?_ ?_
      rotate_left
      · show Act.put _ (some 14) _ = _
        simp only [Act.put, List.setIfInBounds_toArray, List.set_cons_zero, List.set_cons_succ, i64_w, i32_w]
        rfl
      refine one_ (i := 3) (N := some 16) #[true, true, true, true, false, false] rfl rfl (by kernel_rfl) (by decide) (fun K hK => ?_)
      refine goes_ Try.func34 (by kernel_rfl) rfl #[.agg #[.int .i64 a1_0, .slice A1_1 l1_1.length c1_1]] (by rfl) rfl rfl (by (try simp only [List.map_toArray, List.map_cons, List.map_nil]); first | done | rfl | (simp only [List.length_drop, List.length_take]; rfl)) ?_
      with_reducible refine (term_Size.calls a1_0 _ _ l1_1 t270 _ ?side1 ?side2 A6.out).mono ?_
      (case side1 => repeat (first | exact (Kd.C_below HR1_1.out HB.out) | (with_reducible refine Kd.C_alloc ?_ _) | (with_reducible refine Kd.C_drewN ?_ _) | (with_reducible refine Kd.C_drew ?_)))
      (case side2 => exact HC1_1.out)
      rintro e w71 ⟨rfl, hb⟩
      refine ⟨_, rfl, ?_⟩
      have n0_ := Aside0.mk (blk_below (g := gb266) (o := .cells #[.int .i64 a0_0, .slice A0_1 l0_1.length c0_1] 30 (0, 0)) (by (with_reducible repeat (first | refine blk_drewN ?_ _ | refine blk_drew ?_ | refine blk_alloc ?_ _)); exact BK266.out) hb)
      have n1_ := Aside0.mk (blk_below (g := gb267) (o := .cells #[.int .i64 a1_0, .slice A1_1 l1_1.length c1_1] 30 (0, 0)) (by (with_reducible repeat (first | refine blk_drewN ?_ _ | refine blk_drew ?_ | refine blk_alloc ?_ _)); exact BK267.out) hb)
      have n2_ := Aside0.mk (below_step (by repeat (first | (with_reducible first | exact HB.out | apply below_alloc | apply pw_below_drewN | apply below_drew1 | refine below_set ?_ GE266.out | refine below_set ?_ GE267.out) | exact HB.out)) hb)
      clear BK266
      clear BK267
      clear HB
      have BK266 := n0_
      have BK267 := n1_
      have HB := n2_
      clear n0_ n1_ n2_
      (try clear hb)
      (try clear hb2)
      (try clear hk)
      (try clear hi)
      refine hK.out _ _ ⟨(blk_cell BK266.out 0).trans rfl, (blk_cell BK266.out 1).trans rfl, (blk_cell BK267.out 0).trans rfl, (blk_cell BK267.out 1).trans rfl⟩ (fun hHeld => ?_)
      clear hK K
      refine norm_ (a' := ?_) ?_ ?_
      rotate_left
      · show Act.put _ (some 16) _ = _
        simp only [Act.put, List.setIfInBounds_toArray, List.set_cons_zero, List.set_cons_succ, i64_w, i32_w]
        rfl
      refine one_ (i := 4) (N := some 17) #[true, true, true, true, true, false] rfl rfl (by kernel_rfl) (by decide) (fun K hK => ?_)
      refine goes_ Try.func76 (by kernel_rfl) rfl #[.int .i64 t269, .int .i64 t270] (by rfl) rfl rfl (by (try simp only [List.map_toArray, List.map_cons, List.map_nil]); first | done | rfl | (simp only [List.length_drop, List.length_take]; rfl)) ?_
      with_reducible refine (cmp_Compare_int.calls t269 t270 t271 _ A7.out).mono ?_
      rintro e w' ⟨rfl, ⟨nd, rfl⟩⟩
      refine ⟨_, rfl, ?_⟩
      refine hK.out _ _ ⟨(blk_cell BK266.out 0).trans rfl, (blk_cell BK266.out 1).trans rfl, (blk_cell BK267.out 0).trans rfl, (blk_cell BK267.out 1).trans rfl⟩ (fun hHeld => ?_)
      clear hK K
      refine norm_ (a' := ?_) ?_ ?_
      rotate_left
      · show Act.put _ (some 17) _ = _
        simp only [Act.put, List.setIfInBounds_toArray, List.set_cons_zero, List.set_cons_succ, i64_w, i32_w]
        rfl
      refine pure_ (i := 5) (N := some 5) (v := ?_) (a' := ?_) #[true, true, true, true, true, true] rfl rfl (by kernel_rfl) (fun _ _ _ h => h) (Or.inl ⟨by rfl, ?_⟩) ?_ ?_
      rotate_left
      · intro w'
        go_simp
        with_reducible rfl
      rotate_left
      · simp only [Act.put, List.setIfInBounds_toArray, List.set_cons_zero, List.set_cons_succ, i64_w, i32_w]
        rfl
      refine done_ (by kernel_rfl) ?_
      try go_wp2
      go_ret
      exact ⟨by first | rfl | (simp [errW_none, errW_some] <;> rfl) | (simp [*, errW_none, errW_some] <;> rfl), by repeat (first | (with_reducible first | exact HB.out | apply below_alloc | apply pw_below_drewN | apply below_drew1 | refine below_set ?_ GE266.out | refine below_set ?_ GE267.out) | exact HB.out)⟩
  · replace c4 := Bool.eq_false_iff.mpr c4
    subst c4
    have H1 : (some false) = some r := by rw [if_neg (show ¬ (false = true) by decide)] at H; exact H
    clear H
    have H := H1
    clear H1
    obtain rfl := Option.some.inj H
    go_enter Try.func41, Try.ntmps41
    go_wp2_with (first | ((with_reducible refine gate_dst (N := 2) rfl ?_); refine box_event ?hg (N := 2) ?hd (cs := #[.int .i64 a0_0, .slice A0_1 l0_1.length c0_1]) (t := 30) ?hr ?_; (case hd => rfl); (case hg => rfl); (case hr => first | (go_simp; done) | (go_simp; rfl)); intro gb266 hg w72 hbox hb; have n0_ := Aside0.mk (below_step (by repeat (first | (with_reducible first | exact HB.out | apply below_alloc | apply pw_below_drewN | apply below_drew1) | exact HB.out)) hb); have n1_ := Aside0.mk (hbox); have n2_ := Aside0.mk ((by rw [hg]; exact (below_size (by repeat (first | (with_reducible first | exact HB.out | apply below_alloc | apply pw_below_drewN | apply below_drew1) | exact HB.out))) : w.heap.size ≤ gb266)); have n3_ := Aside0.mk ((by rw [hg]; exact (below_size (by repeat (first | (with_reducible first | exact HB.out | apply below_alloc | apply pw_below_drewN | apply below_drew1) | exact HB.out))) : w.heap.size ≤ gb266)); clear HB; have HB := n0_; have BK266 := n1_; have GW266 := n2_; have GE266 := n3_; clear n0_ n1_ n2_ n3_; clear hb hbox hg) | ((with_reducible refine gate_dst (N := 3) rfl ?_); refine box_event ?hg (N := 3) ?hd (cs := #[.int .i64 a1_0, .slice A1_1 l1_1.length c1_1]) (t := 30) ?hr ?_; (case hd => rfl); (case hg => rfl); (case hr => first | (go_simp; done) | (go_simp; rfl)); intro gb267 hg w73 hbox hb; have n0_ := Aside0.mk (blk_below (g := gb266) (o := .cells #[.int .i64 a0_0, .slice A0_1 l0_1.length c0_1] 30 (0, 0)) (by (with_reducible repeat (first | refine blk_drewN ?_ _ | refine blk_drew ?_ | refine blk_alloc ?_ _)); exact BK266.out) hb); have n1_ := Aside0.mk (below_step (by repeat (first | (with_reducible first | exact HB.out | apply below_alloc | apply pw_below_drewN | apply below_drew1 | refine below_set ?_ GE266.out) | exact HB.out)) hb); have n2_ := Aside0.mk (hbox); have n3_ := Aside0.mk ((by rw [hg]; exact (below_size (by repeat (first | (with_reducible first | exact HB.out | apply below_alloc | apply pw_below_drewN | apply below_drew1 | refine below_set ?_ GE266.out) | exact HB.out))) : w.heap.size ≤ gb267)); have n4_ := Aside0.mk ((by rw [hg]; exact (below_size (by repeat (first | (with_reducible first | exact HB.out | apply below_alloc | apply pw_below_drewN | apply below_drew1 | refine below_set ?_ GE266.out) | exact HB.out))) : w.heap.size ≤ gb267)); have n5_ := Aside0.mk ((by rw [hg]; exact Nat.ne_of_lt (blk_lt (g := gb266) (o := .cells #[.int .i64 a0_0, .slice A0_1 l0_1.length c0_1] 30 (0, 0)) (by (with_reducible repeat (first | refine blk_drewN ?_ _ | refine blk_drew ?_ | refine blk_alloc ?_ _)); exact BK266.out)) : gb266 ≠ gb267)); have n6_ := Aside0.mk ((by rw [hg]; exact Nat.ne_of_gt (blk_lt (g := gb266) (o := .cells #[.int .i64 a0_0, .slice A0_1 l0_1.length c0_1] 30 (0, 0)) (by (with_reducible repeat (first | refine blk_drewN ?_ _ | refine blk_drew ?_ | refine blk_alloc ?_ _)); exact BK266.out)) : gb267 ≠ gb266)); clear BK266; clear HB; have BK266 := n0_; have HB := n1_; have BK267 := n2_; have GW267 := n3_; have GE267 := n4_; have NB266_267 := n5_; have NB267_266 := n6_; clear n0_ n1_ n2_ n3_ n4_ n5_ n6_; clear hb hbox hg; have hnb74 := NB266_267.out; have hnc74 := NB267_266.out; have hcz75_0 : w73.cell? ⟨gb266, 0, none⟩ = some (.int .i64 a0_0) := (blk_cell BK266.out 0).trans rfl; have hcz75_1 : w73.cell? ⟨gb266, 1, none⟩ = some (.slice A0_1 l0_1.length c0_1) := (blk_cell BK266.out 1).trans rfl; have hfz75_0 := blk_frozen BK266.out 0; have hfz75_1 := blk_frozen BK266.out 1; have hcz76_0 : w73.cell? ⟨gb267, 0, none⟩ = some (.int .i64 a1_0) := (blk_cell BK267.out 0).trans rfl; have hcz76_1 : w73.cell? ⟨gb267, 1, none⟩ = some (.slice A1_1 l1_1.length c1_1) := (blk_cell BK267.out 1).trans rfl; have hfz76_0 := blk_frozen BK267.out 0; have hfz76_1 := blk_frozen BK267.out 1) | ((with_reducible refine gate_callee (f := 45) rfl ?_); refine goesL_ (some 11) rfl rfl Try.func45 (by kernel_rfl) rfl #[.agg #[.int .i64 a0_0, .slice A0_1 l0_1.length c0_1], .agg #[.int .i64 a1_0, .slice A1_1 l1_1.length c1_1]] rfl (by (try simp only [List.map_toArray, List.map_cons, List.map_nil]); first | done | rfl | (simp only [List.length_drop, List.length_take]; rfl)) ?_; (with_reducible refine (kbo_Covers.calls a0_0 _ _ l0_1 a1_0 _ _ l1_1 false _ ?side1 ?side2 ?side3 ?side4 A3.out).mono ?_); (case side1 => repeat (first | exact (Kd.C_below HR0_1.out HB.out) | (with_reducible refine Kd.C_alloc ?_ _) | (with_reducible refine Kd.C_drewN ?_ _) | (with_reducible refine Kd.C_drew ?_))); (case side2 => exact HC0_1.out); (case side3 => repeat (first | exact (Kd.C_below HR1_1.out HB.out) | (with_reducible refine Kd.C_alloc ?_ _) | (with_reducible refine Kd.C_drewN ?_ _) | (with_reducible refine Kd.C_drew ?_))); (case side4 => exact HC1_1.out); rintro e w77 ⟨rfl, hb⟩; refine ⟨_, rfl, ?_⟩; have n0_ := Aside0.mk (blk_below (g := gb266) (o := .cells #[.int .i64 a0_0, .slice A0_1 l0_1.length c0_1] 30 (0, 0)) (by (with_reducible repeat (first | refine blk_drewN ?_ _ | refine blk_drew ?_ | refine blk_alloc ?_ _)); exact BK266.out) hb); have n1_ := Aside0.mk (blk_below (g := gb267) (o := .cells #[.int .i64 a1_0, .slice A1_1 l1_1.length c1_1] 30 (0, 0)) (by (with_reducible repeat (first | refine blk_drewN ?_ _ | refine blk_drew ?_ | refine blk_alloc ?_ _)); exact BK267.out) hb); have n2_ := Aside0.mk (below_step (by repeat (first | (with_reducible first | exact HB.out | apply below_alloc | apply pw_below_drewN | apply below_drew1 | refine below_set ?_ GE266.out | refine below_set ?_ GE267.out) | exact HB.out)) hb); clear BK266; clear BK267; clear HB; have BK266 := n0_; have BK267 := n1_; have HB := n2_; clear n0_ n1_ n2_; (try clear hb); (try clear hb2); (try clear hk); (try clear hi)))
    go_ret
    exact ⟨by first | rfl | (simp [errW_none, errW_some] <;> rfl) | (simp [*, errW_none, errW_some] <;> rfl), by repeat (first | (with_reducible first | exact HB.out | apply below_alloc | apply pw_below_drewN | apply below_drew1 | refine below_set ?_ GE266.out | refine below_set ?_ GE267.out) | exact HB.out)⟩
end Go.Proofs.Ytpfddihcikiofaa.P
end

section
namespace Go.Proofs.Ytpfddihcikiofaa.P
open Go.RowKit Go.Proofs.YtpfddihcikiofaaW.PrintWords Go.Proofs.YtpfddihcikiofaaW.PrintLast Go.Proofs.YtpfddihcikiofaaW.PrintMore
attribute [local go_sem] max2_int min2_int max_two min_two max_three min_three max_four min_four
set_option linter.unusedVariables false
set_option linter.unusedSimpArgs false
def kbo_Compare.f (k : Nat) (a0_0 : Int) (l0_1 : List (S30)) (a1_0 : Int) (l1_1 : List (S30)) : Option (Int) := (term_Same.f a0_0 l0_1 a1_0 l1_1).bind fun t286 => (if t286 = true then (some 0) else ((kbo_Greater.f k a0_0 l0_1 a1_0 l1_1).bind fun t287 => (if t287 = true then (some 1) else ((kbo_Greater.f k a1_0 l1_1 a0_0 l0_1).bind fun t288 => (if t288 = true then (some (-1)) else (some 2))))))
set_option maxHeartbeats 8000000 in
set_option maxRecDepth 100000 in
theorem kbo_Compare.calls (k : Nat) (a0_0 : Int) (A0_1 : Option Addr) (c0_1 : Nat) (l0_1 : List (S30)) (a1_0 : Int) (A1_1 : Option Addr) (c1_1 : Nat) (l1_1 : List (S30)) (r : Int) (w : World) (hr0_1 : Kd.C k30 w A0_1 l0_1.length l0_1) (hc0_1 : l0_1.length ≤ c0_1) (hr1_1 : Kd.C k30 w A1_1 l1_1.length l1_1) (hc1_1 : l1_1.length ≤ c1_1) (h : kbo_Compare.f k a0_0 l0_1 a1_0 l1_1 = some r) :
    Calls Try.prog 43 #[.agg #[.int .i64 a0_0, .slice A0_1 l0_1.length c0_1], .agg #[.int .i64 a1_0, .slice A1_1 l1_1.length c1_1]] w fun e w' => e = .returned (.int .i64 r) ∧ Below w.heap.size w w' := by
  have hu30 := Try.underlying30
  have HR0_1 := Aside0.mk hr0_1
  have HC0_1 := Aside0.mk hc0_1
  clear hr0_1 hc0_1
  have HR1_1 := Aside0.mk hr1_1
  have HC1_1 := Aside0.mk hc1_1
  clear hr1_1 hc1_1
  have HB := Aside0.mk (Below.refl w.heap.size w)
  have H : ((term_Same.f a0_0 l0_1 a1_0 l1_1).bind fun t286 => (if t286 = true then (some 0) else ((kbo_Greater.f k a0_0 l0_1 a1_0 l1_1).bind fun t287 => (if t287 = true then (some 1) else ((kbo_Greater.f k a1_0 l1_1 a0_0 l0_1).bind fun t288 => (if t288 = true then (some (-1)) else (some 2))))))) = some r := h
  clear h
  replace H := Option.bind_eq_some_iff.mp H
  obtain ⟨t286, A30, H⟩ := H
  replace H : (if t286 = true then (some 0) else ((kbo_Greater.f k a0_0 l0_1 a1_0 l1_1).bind fun t287 => (if t287 = true then (some 1) else ((kbo_Greater.f k a1_0 l1_1 a0_0 l0_1).bind fun t288 => (if t288 = true then (some (-1)) else (some 2)))))) = some r := H
  have A3 := Aside0.mk A30
  clear A30
  by_cases c4 : t286 = true
  · subst c4
    have H1 : (some 0) = some r := by rw [if_pos rfl] at H; exact H
    clear H
    have H := H1
    clear H1
    obtain rfl := Option.some.inj H
    go_enter Try.func43, Try.ntmps43
    go_wp2_with (first | ((with_reducible refine gate_dst (N := 2) rfl ?_); refine box_event ?hg (N := 2) ?hd (cs := #[.int .i64 a0_0, .slice A0_1 l0_1.length c0_1]) (t := 30) ?hr ?_; (case hd => rfl); (case hg => rfl); (case hr => first | (go_simp; done) | (go_simp; rfl)); intro gb284 hg w5 hbox hb; have n0_ := Aside0.mk (below_step (by repeat (first | (with_reducible first | exact HB.out | apply below_alloc | apply pw_below_drewN | apply below_drew1) | exact HB.out)) hb); have n1_ := Aside0.mk (hbox); have n2_ := Aside0.mk ((by rw [hg]; exact (below_size (by repeat (first | (with_reducible first | exact HB.out | apply below_alloc | apply pw_below_drewN | apply below_drew1) | exact HB.out))) : w.heap.size ≤ gb284)); have n3_ := Aside0.mk ((by rw [hg]; exact (below_size (by repeat (first | (with_reducible first | exact HB.out | apply below_alloc | apply pw_below_drewN | apply below_drew1) | exact HB.out))) : w.heap.size ≤ gb284)); clear HB; have HB := n0_; have BK284 := n1_; have GW284 := n2_; have GE284 := n3_; clear n0_ n1_ n2_ n3_; clear hb hbox hg) | ((with_reducible refine gate_dst (N := 3) rfl ?_); refine box_event ?hg (N := 3) ?hd (cs := #[.int .i64 a1_0, .slice A1_1 l1_1.length c1_1]) (t := 30) ?hr ?_; (case hd => rfl); (case hg => rfl); (case hr => first | (go_simp; done) | (go_simp; rfl)); intro gb285 hg w6 hbox hb; have n0_ := Aside0.mk (blk_below (g := gb284) (o := .cells #[.int .i64 a0_0, .slice A0_1 l0_1.length c0_1] 30 (0, 0)) (by (with_reducible repeat (first | refine blk_drewN ?_ _ | refine blk_drew ?_ | refine blk_alloc ?_ _)); exact BK284.out) hb); have n1_ := Aside0.mk (below_step (by repeat (first | (with_reducible first | exact HB.out | apply below_alloc | apply pw_below_drewN | apply below_drew1 | refine below_set ?_ GE284.out) | exact HB.out)) hb); have n2_ := Aside0.mk (hbox); have n3_ := Aside0.mk ((by rw [hg]; exact (below_size (by repeat (first | (with_reducible first | exact HB.out | apply below_alloc | apply pw_below_drewN | apply below_drew1 | refine below_set ?_ GE284.out) | exact HB.out))) : w.heap.size ≤ gb285)); have n4_ := Aside0.mk ((by rw [hg]; exact (below_size (by repeat (first | (with_reducible first | exact HB.out | apply below_alloc | apply pw_below_drewN | apply below_drew1 | refine below_set ?_ GE284.out) | exact HB.out))) : w.heap.size ≤ gb285)); have n5_ := Aside0.mk ((by rw [hg]; exact Nat.ne_of_lt (blk_lt (g := gb284) (o := .cells #[.int .i64 a0_0, .slice A0_1 l0_1.length c0_1] 30 (0, 0)) (by (with_reducible repeat (first | refine blk_drewN ?_ _ | refine blk_drew ?_ | refine blk_alloc ?_ _)); exact BK284.out)) : gb284 ≠ gb285)); have n6_ := Aside0.mk ((by rw [hg]; exact Nat.ne_of_gt (blk_lt (g := gb284) (o := .cells #[.int .i64 a0_0, .slice A0_1 l0_1.length c0_1] 30 (0, 0)) (by (with_reducible repeat (first | refine blk_drewN ?_ _ | refine blk_drew ?_ | refine blk_alloc ?_ _)); exact BK284.out)) : gb285 ≠ gb284)); clear BK284; clear HB; have BK284 := n0_; have HB := n1_; have BK285 := n2_; have GW285 := n3_; have GE285 := n4_; have NB284_285 := n5_; have NB285_284 := n6_; clear n0_ n1_ n2_ n3_ n4_ n5_ n6_; clear hb hbox hg; have hnb7 := NB284_285.out; have hnc7 := NB285_284.out; have hcz8_0 : w6.cell? ⟨gb284, 0, none⟩ = some (.int .i64 a0_0) := (blk_cell BK284.out 0).trans rfl; have hcz8_1 : w6.cell? ⟨gb284, 1, none⟩ = some (.slice A0_1 l0_1.length c0_1) := (blk_cell BK284.out 1).trans rfl; have hfz8_0 := blk_frozen BK284.out 0; have hfz8_1 := blk_frozen BK284.out 1; have hcz9_0 : w6.cell? ⟨gb285, 0, none⟩ = some (.int .i64 a1_0) := (blk_cell BK285.out 0).trans rfl; have hcz9_1 : w6.cell? ⟨gb285, 1, none⟩ = some (.slice A1_1 l1_1.length c1_1) := (blk_cell BK285.out 1).trans rfl; have hfz9_0 := blk_frozen BK285.out 0; have hfz9_1 := blk_frozen BK285.out 1) | ((with_reducible refine gate_callee (f := 37) rfl ?_); refine goesL_ (some 8) rfl rfl Try.func37 (by kernel_rfl) rfl #[.agg #[.int .i64 a0_0, .slice A0_1 l0_1.length c0_1], .agg #[.int .i64 a1_0, .slice A1_1 l1_1.length c1_1]] rfl (by (try simp only [List.map_toArray, List.map_cons, List.map_nil]); first | done | rfl | (simp only [List.length_drop, List.length_take]; rfl)) ?_; (with_reducible refine (term_Same.calls a0_0 _ _ l0_1 a1_0 _ _ l1_1 true _ ?side1 ?side2 ?side3 ?side4 A3.out).mono ?_); (case side1 => repeat (first | exact (Kd.C_below HR0_1.out HB.out) | (with_reducible refine Kd.C_alloc ?_ _) | (with_reducible refine Kd.C_drewN ?_ _) | (with_reducible refine Kd.C_drew ?_))); (case side2 => exact HC0_1.out); (case side3 => repeat (first | exact (Kd.C_below HR1_1.out HB.out) | (with_reducible refine Kd.C_alloc ?_ _) | (with_reducible refine Kd.C_drewN ?_ _) | (with_reducible refine Kd.C_drew ?_))); (case side4 => exact HC1_1.out); rintro e w10 ⟨rfl, hb⟩; refine ⟨_, rfl, ?_⟩; have n0_ := Aside0.mk (blk_below (g := gb284) (o := .cells #[.int .i64 a0_0, .slice A0_1 l0_1.length c0_1] 30 (0, 0)) (by (with_reducible repeat (first | refine blk_drewN ?_ _ | refine blk_drew ?_ | refine blk_alloc ?_ _)); exact BK284.out) hb); have n1_ := Aside0.mk (blk_below (g := gb285) (o := .cells #[.int .i64 a1_0, .slice A1_1 l1_1.length c1_1] 30 (0, 0)) (by (with_reducible repeat (first | refine blk_drewN ?_ _ | refine blk_drew ?_ | refine blk_alloc ?_ _)); exact BK285.out) hb); have n2_ := Aside0.mk (below_step (by repeat (first | (with_reducible first | exact HB.out | apply below_alloc | apply pw_below_drewN | apply below_drew1 | refine below_set ?_ GE284.out | refine below_set ?_ GE285.out) | exact HB.out)) hb); clear BK284; clear BK285; clear HB; have BK284 := n0_; have BK285 := n1_; have HB := n2_; clear n0_ n1_ n2_; (try clear hb); (try clear hb2); (try clear hk); (try clear hi)))
    go_ret
    exact ⟨by first | rfl | (simp [errW_none, errW_some] <;> rfl) | (simp [*, errW_none, errW_some] <;> rfl), by repeat (first | (with_reducible first | exact HB.out | apply below_alloc | apply pw_below_drewN | apply below_drew1 | refine below_set ?_ GE284.out | refine below_set ?_ GE285.out) | exact HB.out)⟩
  · replace c4 := Bool.eq_false_iff.mpr c4
    subst c4
    have H1 : ((kbo_Greater.f k a0_0 l0_1 a1_0 l1_1).bind fun t287 => (if t287 = true then (some 1) else ((kbo_Greater.f k a1_0 l1_1 a0_0 l0_1).bind fun t288 => (if t288 = true then (some (-1)) else (some 2))))) = some r := by rw [if_neg (show ¬ (false = true) by decide)] at H; exact H
    clear H
    have H := H1
    clear H1
    replace H := Option.bind_eq_some_iff.mp H
    obtain ⟨t287, A110, H⟩ := H
    replace H : (if t287 = true then (some 1) else ((kbo_Greater.f k a1_0 l1_1 a0_0 l0_1).bind fun t288 => (if t288 = true then (some (-1)) else (some 2)))) = some r := H
    have A11 := Aside0.mk A110
    clear A110
    by_cases c12 : t287 = true
    · subst c12
      have H1 : (some 1) = some r := by rw [if_pos rfl] at H; exact H
      clear H
      have H := H1
      clear H1
      obtain rfl := Option.some.inj H
      go_enter Try.func43, Try.ntmps43
      go_wp2_with (first | ((with_reducible refine gate_dst (N := 2) rfl ?_); refine box_event ?hg (N := 2) ?hd (cs := #[.int .i64 a0_0, .slice A0_1 l0_1.length c0_1]) (t := 30) ?hr ?_; (case hd => rfl); (case hg => rfl); (case hr => first | (go_simp; done) | (go_simp; rfl)); intro gb284 hg w13 hbox hb; have n0_ := Aside0.mk (below_step (by repeat (first | (with_reducible first | exact HB.out | apply below_alloc | apply pw_below_drewN | apply below_drew1) | exact HB.out)) hb); have n1_ := Aside0.mk (hbox); have n2_ := Aside0.mk ((by rw [hg]; exact (below_size (by repeat (first | (with_reducible first | exact HB.out | apply below_alloc | apply pw_below_drewN | apply below_drew1) | exact HB.out))) : w.heap.size ≤ gb284)); have n3_ := Aside0.mk ((by rw [hg]; exact (below_size (by repeat (first | (with_reducible first | exact HB.out | apply below_alloc | apply pw_below_drewN | apply below_drew1) | exact HB.out))) : w.heap.size ≤ gb284)); clear HB; have HB := n0_; have BK284 := n1_; have GW284 := n2_; have GE284 := n3_; clear n0_ n1_ n2_ n3_; clear hb hbox hg) | ((with_reducible refine gate_dst (N := 3) rfl ?_); refine box_event ?hg (N := 3) ?hd (cs := #[.int .i64 a1_0, .slice A1_1 l1_1.length c1_1]) (t := 30) ?hr ?_; (case hd => rfl); (case hg => rfl); (case hr => first | (go_simp; done) | (go_simp; rfl)); intro gb285 hg w14 hbox hb; have n0_ := Aside0.mk (blk_below (g := gb284) (o := .cells #[.int .i64 a0_0, .slice A0_1 l0_1.length c0_1] 30 (0, 0)) (by (with_reducible repeat (first | refine blk_drewN ?_ _ | refine blk_drew ?_ | refine blk_alloc ?_ _)); exact BK284.out) hb); have n1_ := Aside0.mk (below_step (by repeat (first | (with_reducible first | exact HB.out | apply below_alloc | apply pw_below_drewN | apply below_drew1 | refine below_set ?_ GE284.out) | exact HB.out)) hb); have n2_ := Aside0.mk (hbox); have n3_ := Aside0.mk ((by rw [hg]; exact (below_size (by repeat (first | (with_reducible first | exact HB.out | apply below_alloc | apply pw_below_drewN | apply below_drew1 | refine below_set ?_ GE284.out) | exact HB.out))) : w.heap.size ≤ gb285)); have n4_ := Aside0.mk ((by rw [hg]; exact (below_size (by repeat (first | (with_reducible first | exact HB.out | apply below_alloc | apply pw_below_drewN | apply below_drew1 | refine below_set ?_ GE284.out) | exact HB.out))) : w.heap.size ≤ gb285)); have n5_ := Aside0.mk ((by rw [hg]; exact Nat.ne_of_lt (blk_lt (g := gb284) (o := .cells #[.int .i64 a0_0, .slice A0_1 l0_1.length c0_1] 30 (0, 0)) (by (with_reducible repeat (first | refine blk_drewN ?_ _ | refine blk_drew ?_ | refine blk_alloc ?_ _)); exact BK284.out)) : gb284 ≠ gb285)); have n6_ := Aside0.mk ((by rw [hg]; exact Nat.ne_of_gt (blk_lt (g := gb284) (o := .cells #[.int .i64 a0_0, .slice A0_1 l0_1.length c0_1] 30 (0, 0)) (by (with_reducible repeat (first | refine blk_drewN ?_ _ | refine blk_drew ?_ | refine blk_alloc ?_ _)); exact BK284.out)) : gb285 ≠ gb284)); clear BK284; clear HB; have BK284 := n0_; have HB := n1_; have BK285 := n2_; have GW285 := n3_; have GE285 := n4_; have NB284_285 := n5_; have NB285_284 := n6_; clear n0_ n1_ n2_ n3_ n4_ n5_ n6_; clear hb hbox hg; have hnb15 := NB284_285.out; have hnc15 := NB285_284.out; have hcz16_0 : w14.cell? ⟨gb284, 0, none⟩ = some (.int .i64 a0_0) := (blk_cell BK284.out 0).trans rfl; have hcz16_1 : w14.cell? ⟨gb284, 1, none⟩ = some (.slice A0_1 l0_1.length c0_1) := (blk_cell BK284.out 1).trans rfl; have hfz16_0 := blk_frozen BK284.out 0; have hfz16_1 := blk_frozen BK284.out 1; have hcz17_0 : w14.cell? ⟨gb285, 0, none⟩ = some (.int .i64 a1_0) := (blk_cell BK285.out 0).trans rfl; have hcz17_1 : w14.cell? ⟨gb285, 1, none⟩ = some (.slice A1_1 l1_1.length c1_1) := (blk_cell BK285.out 1).trans rfl; have hfz17_0 := blk_frozen BK285.out 0; have hfz17_1 := blk_frozen BK285.out 1) | ((with_reducible refine gate_callee (f := 37) rfl ?_); refine goesL_ (some 8) rfl rfl Try.func37 (by kernel_rfl) rfl #[.agg #[.int .i64 a0_0, .slice A0_1 l0_1.length c0_1], .agg #[.int .i64 a1_0, .slice A1_1 l1_1.length c1_1]] rfl (by (try simp only [List.map_toArray, List.map_cons, List.map_nil]); first | done | rfl | (simp only [List.length_drop, List.length_take]; rfl)) ?_; (with_reducible refine (term_Same.calls a0_0 _ _ l0_1 a1_0 _ _ l1_1 false _ ?side1 ?side2 ?side3 ?side4 A3.out).mono ?_); (case side1 => repeat (first | exact (Kd.C_below HR0_1.out HB.out) | (with_reducible refine Kd.C_alloc ?_ _) | (with_reducible refine Kd.C_drewN ?_ _) | (with_reducible refine Kd.C_drew ?_))); (case side2 => exact HC0_1.out); (case side3 => repeat (first | exact (Kd.C_below HR1_1.out HB.out) | (with_reducible refine Kd.C_alloc ?_ _) | (with_reducible refine Kd.C_drewN ?_ _) | (with_reducible refine Kd.C_drew ?_))); (case side4 => exact HC1_1.out); rintro e w18 ⟨rfl, hb⟩; refine ⟨_, rfl, ?_⟩; have n0_ := Aside0.mk (blk_below (g := gb284) (o := .cells #[.int .i64 a0_0, .slice A0_1 l0_1.length c0_1] 30 (0, 0)) (by (with_reducible repeat (first | refine blk_drewN ?_ _ | refine blk_drew ?_ | refine blk_alloc ?_ _)); exact BK284.out) hb); have n1_ := Aside0.mk (blk_below (g := gb285) (o := .cells #[.int .i64 a1_0, .slice A1_1 l1_1.length c1_1] 30 (0, 0)) (by (with_reducible repeat (first | refine blk_drewN ?_ _ | refine blk_drew ?_ | refine blk_alloc ?_ _)); exact BK285.out) hb); have n2_ := Aside0.mk (below_step (by repeat (first | (with_reducible first | exact HB.out | apply below_alloc | apply pw_below_drewN | apply below_drew1 | refine below_set ?_ GE284.out | refine below_set ?_ GE285.out) | exact HB.out)) hb); clear BK284; clear BK285; clear HB; have BK284 := n0_; have BK285 := n1_; have HB := n2_; clear n0_ n1_ n2_; (try clear hb); (try clear hb2); (try clear hk); (try clear hi); have hcz19_0 : w18.cell? ⟨gb284, 0, none⟩ = some (.int .i64 a0_0) := (blk_cell BK284.out 0).trans rfl; have hcz19_1 : w18.cell? ⟨gb284, 1, none⟩ = some (.slice A0_1 l0_1.length c0_1) := (blk_cell BK284.out 1).trans rfl; have hfz19_0 := blk_frozen BK284.out 0; have hfz19_1 := blk_frozen BK284.out 1; have hcz20_0 : w18.cell? ⟨gb285, 0, none⟩ = some (.int .i64 a1_0) := (blk_cell BK285.out 0).trans rfl; have hcz20_1 : w18.cell? ⟨gb285, 1, none⟩ = some (.slice A1_1 l1_1.length c1_1) := (blk_cell BK285.out 1).trans rfl; have hfz20_0 := blk_frozen BK285.out 0; have hfz20_1 := blk_frozen BK285.out 1) | ((with_reducible refine gate_callee (f := 41) rfl ?_); refine goesL_ (some 12) rfl rfl Try.func41 (by kernel_rfl) rfl #[.agg #[.int .i64 a0_0, .slice A0_1 l0_1.length c0_1], .agg #[.int .i64 a1_0, .slice A1_1 l1_1.length c1_1]] rfl (by (try simp only [List.map_toArray, List.map_cons, List.map_nil]); first | done | rfl | (simp only [List.length_drop, List.length_take]; rfl)) ?_; (with_reducible refine (kbo_Greater.calls k a0_0 _ _ l0_1 a1_0 _ _ l1_1 true _ ?side1 ?side2 ?side3 ?side4 A11.out).mono ?_); (case side1 => repeat (first | exact (Kd.C_below HR0_1.out HB.out) | (with_reducible refine Kd.C_alloc ?_ _) | (with_reducible refine Kd.C_drewN ?_ _) | (with_reducible refine Kd.C_drew ?_))); (case side2 => exact HC0_1.out); (case side3 => repeat (first | exact (Kd.C_below HR1_1.out HB.out) | (with_reducible refine Kd.C_alloc ?_ _) | (with_reducible refine Kd.C_drewN ?_ _) | (with_reducible refine Kd.C_drew ?_))); (case side4 => exact HC1_1.out); rintro e w21 ⟨rfl, hb⟩; refine ⟨_, rfl, ?_⟩; have n0_ := Aside0.mk (blk_below (g := gb284) (o := .cells #[.int .i64 a0_0, .slice A0_1 l0_1.length c0_1] 30 (0, 0)) (by (with_reducible repeat (first | refine blk_drewN ?_ _ | refine blk_drew ?_ | refine blk_alloc ?_ _)); exact BK284.out) hb); have n1_ := Aside0.mk (blk_below (g := gb285) (o := .cells #[.int .i64 a1_0, .slice A1_1 l1_1.length c1_1] 30 (0, 0)) (by (with_reducible repeat (first | refine blk_drewN ?_ _ | refine blk_drew ?_ | refine blk_alloc ?_ _)); exact BK285.out) hb); have n2_ := Aside0.mk (below_step (by repeat (first | (with_reducible first | exact HB.out | apply below_alloc | apply pw_below_drewN | apply below_drew1 | refine below_set ?_ GE284.out | refine below_set ?_ GE285.out) | exact HB.out)) hb); clear BK284; clear BK285; clear HB; have BK284 := n0_; have BK285 := n1_; have HB := n2_; clear n0_ n1_ n2_; (try clear hb); (try clear hb2); (try clear hk); (try clear hi)))
      go_ret
      exact ⟨by first | rfl | (simp [errW_none, errW_some] <;> rfl) | (simp [*, errW_none, errW_some] <;> rfl), by repeat (first | (with_reducible first | exact HB.out | apply below_alloc | apply pw_below_drewN | apply below_drew1 | refine below_set ?_ GE284.out | refine below_set ?_ GE285.out) | exact HB.out)⟩
    · replace c12 := Bool.eq_false_iff.mpr c12
      subst c12
      have H1 : ((kbo_Greater.f k a1_0 l1_1 a0_0 l0_1).bind fun t288 => (if t288 = true then (some (-1)) else (some 2))) = some r := by rw [if_neg (show ¬ (false = true) by decide)] at H; exact H
      clear H
      have H := H1
      clear H1
      replace H := Option.bind_eq_some_iff.mp H
      obtain ⟨t288, A220, H⟩ := H
      replace H : (if t288 = true then (some (-1)) else (some 2)) = some r := H
      have A22 := Aside0.mk A220
      clear A220
      by_cases c23 : t288 = true
      · subst c23
        have H1 : (some (-1)) = some r := by rw [if_pos rfl] at H; exact H
        clear H
        have H := H1
        clear H1
        obtain rfl := Option.some.inj H
        go_enter Try.func43, Try.ntmps43
        go_wp2_with (first | ((with_reducible refine gate_dst (N := 2) rfl ?_); refine box_event ?hg (N := 2) ?hd (cs := #[.int .i64 a0_0, .slice A0_1 l0_1.length c0_1]) (t := 30) ?hr ?_; (case hd => rfl); (case hg => rfl); (case hr => first | (go_simp; done) | (go_simp; rfl)); intro gb284 hg w24 hbox hb; have n0_ := Aside0.mk (below_step (by repeat (first | (with_reducible first | exact HB.out | apply below_alloc | apply pw_below_drewN | apply below_drew1) | exact HB.out)) hb); have n1_ := Aside0.mk (hbox); have n2_ := Aside0.mk ((by rw [hg]; exact (below_size (by repeat (first | (with_reducible first | exact HB.out | apply below_alloc | apply pw_below_drewN | apply below_drew1) | exact HB.out))) : w.heap.size ≤ gb284)); have n3_ := Aside0.mk ((by rw [hg]; exact (below_size (by repeat (first | (with_reducible first | exact HB.out | apply below_alloc | apply pw_below_drewN | apply below_drew1) | exact HB.out))) : w.heap.size ≤ gb284)); clear HB; have HB := n0_; have BK284 := n1_; have GW284 := n2_; have GE284 := n3_; clear n0_ n1_ n2_ n3_; clear hb hbox hg) | ((with_reducible refine gate_dst (N := 3) rfl ?_); refine box_event ?hg (N := 3) ?hd (cs := #[.int .i64 a1_0, .slice A1_1 l1_1.length c1_1]) (t := 30) ?hr ?_; (case hd => rfl); (case hg => rfl); (case hr => first | (go_simp; done) | (go_simp; rfl)); intro gb285 hg w25 hbox hb; have n0_ := Aside0.mk (blk_below (g := gb284) (o := .cells #[.int .i64 a0_0, .slice A0_1 l0_1.length c0_1] 30 (0, 0)) (by (with_reducible repeat (first | refine blk_drewN ?_ _ | refine blk_drew ?_ | refine blk_alloc ?_ _)); exact BK284.out) hb); have n1_ := Aside0.mk (below_step (by repeat (first | (with_reducible first | exact HB.out | apply below_alloc | apply pw_below_drewN | apply below_drew1 | refine below_set ?_ GE284.out) | exact HB.out)) hb); have n2_ := Aside0.mk (hbox); have n3_ := Aside0.mk ((by rw [hg]; exact (below_size (by repeat (first | (with_reducible first | exact HB.out | apply below_alloc | apply pw_below_drewN | apply below_drew1 | refine below_set ?_ GE284.out) | exact HB.out))) : w.heap.size ≤ gb285)); have n4_ := Aside0.mk ((by rw [hg]; exact (below_size (by repeat (first | (with_reducible first | exact HB.out | apply below_alloc | apply pw_below_drewN | apply below_drew1 | refine below_set ?_ GE284.out) | exact HB.out))) : w.heap.size ≤ gb285)); have n5_ := Aside0.mk ((by rw [hg]; exact Nat.ne_of_lt (blk_lt (g := gb284) (o := .cells #[.int .i64 a0_0, .slice A0_1 l0_1.length c0_1] 30 (0, 0)) (by (with_reducible repeat (first | refine blk_drewN ?_ _ | refine blk_drew ?_ | refine blk_alloc ?_ _)); exact BK284.out)) : gb284 ≠ gb285)); have n6_ := Aside0.mk ((by rw [hg]; exact Nat.ne_of_gt (blk_lt (g := gb284) (o := .cells #[.int .i64 a0_0, .slice A0_1 l0_1.length c0_1] 30 (0, 0)) (by (with_reducible repeat (first | refine blk_drewN ?_ _ | refine blk_drew ?_ | refine blk_alloc ?_ _)); exact BK284.out)) : gb285 ≠ gb284)); clear BK284; clear HB; have BK284 := n0_; have HB := n1_; have BK285 := n2_; have GW285 := n3_; have GE285 := n4_; have NB284_285 := n5_; have NB285_284 := n6_; clear n0_ n1_ n2_ n3_ n4_ n5_ n6_; clear hb hbox hg; have hnb26 := NB284_285.out; have hnc26 := NB285_284.out; have hcz27_0 : w25.cell? ⟨gb284, 0, none⟩ = some (.int .i64 a0_0) := (blk_cell BK284.out 0).trans rfl; have hcz27_1 : w25.cell? ⟨gb284, 1, none⟩ = some (.slice A0_1 l0_1.length c0_1) := (blk_cell BK284.out 1).trans rfl; have hfz27_0 := blk_frozen BK284.out 0; have hfz27_1 := blk_frozen BK284.out 1; have hcz28_0 : w25.cell? ⟨gb285, 0, none⟩ = some (.int .i64 a1_0) := (blk_cell BK285.out 0).trans rfl; have hcz28_1 : w25.cell? ⟨gb285, 1, none⟩ = some (.slice A1_1 l1_1.length c1_1) := (blk_cell BK285.out 1).trans rfl; have hfz28_0 := blk_frozen BK285.out 0; have hfz28_1 := blk_frozen BK285.out 1) | ((with_reducible refine gate_callee (f := 37) rfl ?_); refine goesL_ (some 8) rfl rfl Try.func37 (by kernel_rfl) rfl #[.agg #[.int .i64 a0_0, .slice A0_1 l0_1.length c0_1], .agg #[.int .i64 a1_0, .slice A1_1 l1_1.length c1_1]] rfl (by (try simp only [List.map_toArray, List.map_cons, List.map_nil]); first | done | rfl | (simp only [List.length_drop, List.length_take]; rfl)) ?_; (with_reducible refine (term_Same.calls a0_0 _ _ l0_1 a1_0 _ _ l1_1 false _ ?side1 ?side2 ?side3 ?side4 A3.out).mono ?_); (case side1 => repeat (first | exact (Kd.C_below HR0_1.out HB.out) | (with_reducible refine Kd.C_alloc ?_ _) | (with_reducible refine Kd.C_drewN ?_ _) | (with_reducible refine Kd.C_drew ?_))); (case side2 => exact HC0_1.out); (case side3 => repeat (first | exact (Kd.C_below HR1_1.out HB.out) | (with_reducible refine Kd.C_alloc ?_ _) | (with_reducible refine Kd.C_drewN ?_ _) | (with_reducible refine Kd.C_drew ?_))); (case side4 => exact HC1_1.out); rintro e w29 ⟨rfl, hb⟩; refine ⟨_, rfl, ?_⟩; have n0_ := Aside0.mk (blk_below (g := gb284) (o := .cells #[.int .i64 a0_0, .slice A0_1 l0_1.length c0_1] 30 (0, 0)) (by (with_reducible repeat (first | refine blk_drewN ?_ _ | refine blk_drew ?_ | refine blk_alloc ?_ _)); exact BK284.out) hb); have n1_ := Aside0.mk (blk_below (g := gb285) (o := .cells #[.int .i64 a1_0, .slice A1_1 l1_1.length c1_1] 30 (0, 0)) (by (with_reducible repeat (first | refine blk_drewN ?_ _ | refine blk_drew ?_ | refine blk_alloc ?_ _)); exact BK285.out) hb); have n2_ := Aside0.mk (below_step (by repeat (first | (with_reducible first | exact HB.out | apply below_alloc | apply pw_below_drewN | apply below_drew1 | refine below_set ?_ GE284.out | refine below_set ?_ GE285.out) | exact HB.out)) hb); clear BK284; clear BK285; clear HB; have BK284 := n0_; have BK285 := n1_; have HB := n2_; clear n0_ n1_ n2_; (try clear hb); (try clear hb2); (try clear hk); (try clear hi); have hcz30_0 : w29.cell? ⟨gb284, 0, none⟩ = some (.int .i64 a0_0) := (blk_cell BK284.out 0).trans rfl; have hcz30_1 : w29.cell? ⟨gb284, 1, none⟩ = some (.slice A0_1 l0_1.length c0_1) := (blk_cell BK284.out 1).trans rfl; have hfz30_0 := blk_frozen BK284.out 0; have hfz30_1 := blk_frozen BK284.out 1; have hcz31_0 : w29.cell? ⟨gb285, 0, none⟩ = some (.int .i64 a1_0) := (blk_cell BK285.out 0).trans rfl; have hcz31_1 : w29.cell? ⟨gb285, 1, none⟩ = some (.slice A1_1 l1_1.length c1_1) := (blk_cell BK285.out 1).trans rfl; have hfz31_0 := blk_frozen BK285.out 0; have hfz31_1 := blk_frozen BK285.out 1) | ((with_reducible refine gate_callee (f := 41) rfl ?_); refine goesL_ (some 12) rfl rfl Try.func41 (by kernel_rfl) rfl #[.agg #[.int .i64 a0_0, .slice A0_1 l0_1.length c0_1], .agg #[.int .i64 a1_0, .slice A1_1 l1_1.length c1_1]] rfl (by (try simp only [List.map_toArray, List.map_cons, List.map_nil]); first | done | rfl | (simp only [List.length_drop, List.length_take]; rfl)) ?_; (with_reducible refine (kbo_Greater.calls k a0_0 _ _ l0_1 a1_0 _ _ l1_1 false _ ?side1 ?side2 ?side3 ?side4 A11.out).mono ?_); (case side1 => repeat (first | exact (Kd.C_below HR0_1.out HB.out) | (with_reducible refine Kd.C_alloc ?_ _) | (with_reducible refine Kd.C_drewN ?_ _) | (with_reducible refine Kd.C_drew ?_))); (case side2 => exact HC0_1.out); (case side3 => repeat (first | exact (Kd.C_below HR1_1.out HB.out) | (with_reducible refine Kd.C_alloc ?_ _) | (with_reducible refine Kd.C_drewN ?_ _) | (with_reducible refine Kd.C_drew ?_))); (case side4 => exact HC1_1.out); rintro e w32 ⟨rfl, hb⟩; refine ⟨_, rfl, ?_⟩; have n0_ := Aside0.mk (blk_below (g := gb284) (o := .cells #[.int .i64 a0_0, .slice A0_1 l0_1.length c0_1] 30 (0, 0)) (by (with_reducible repeat (first | refine blk_drewN ?_ _ | refine blk_drew ?_ | refine blk_alloc ?_ _)); exact BK284.out) hb); have n1_ := Aside0.mk (blk_below (g := gb285) (o := .cells #[.int .i64 a1_0, .slice A1_1 l1_1.length c1_1] 30 (0, 0)) (by (with_reducible repeat (first | refine blk_drewN ?_ _ | refine blk_drew ?_ | refine blk_alloc ?_ _)); exact BK285.out) hb); have n2_ := Aside0.mk (below_step (by repeat (first | (with_reducible first | exact HB.out | apply below_alloc | apply pw_below_drewN | apply below_drew1 | refine below_set ?_ GE284.out | refine below_set ?_ GE285.out) | exact HB.out)) hb); clear BK284; clear BK285; clear HB; have BK284 := n0_; have BK285 := n1_; have HB := n2_; clear n0_ n1_ n2_; (try clear hb); (try clear hb2); (try clear hk); (try clear hi); have hcz33_0 : w32.cell? ⟨gb285, 0, none⟩ = some (.int .i64 a1_0) := (blk_cell BK285.out 0).trans rfl; have hcz33_1 : w32.cell? ⟨gb285, 1, none⟩ = some (.slice A1_1 l1_1.length c1_1) := (blk_cell BK285.out 1).trans rfl; have hfz33_0 := blk_frozen BK285.out 0; have hfz33_1 := blk_frozen BK285.out 1; have hcz34_0 : w32.cell? ⟨gb284, 0, none⟩ = some (.int .i64 a0_0) := (blk_cell BK284.out 0).trans rfl; have hcz34_1 : w32.cell? ⟨gb284, 1, none⟩ = some (.slice A0_1 l0_1.length c0_1) := (blk_cell BK284.out 1).trans rfl; have hfz34_0 := blk_frozen BK284.out 0; have hfz34_1 := blk_frozen BK284.out 1) | ((with_reducible refine gate_callee (f := 41) rfl ?_); refine goesL_ (some 16) rfl rfl Try.func41 (by kernel_rfl) rfl #[.agg #[.int .i64 a1_0, .slice A1_1 l1_1.length c1_1], .agg #[.int .i64 a0_0, .slice A0_1 l0_1.length c0_1]] rfl (by (try simp only [List.map_toArray, List.map_cons, List.map_nil]); first | done | rfl | (simp only [List.length_drop, List.length_take]; rfl)) ?_; (with_reducible refine (kbo_Greater.calls k a1_0 _ _ l1_1 a0_0 _ _ l0_1 true _ ?side1 ?side2 ?side3 ?side4 A22.out).mono ?_); (case side1 => repeat (first | exact (Kd.C_below HR1_1.out HB.out) | (with_reducible refine Kd.C_alloc ?_ _) | (with_reducible refine Kd.C_drewN ?_ _) | (with_reducible refine Kd.C_drew ?_))); (case side2 => exact HC1_1.out); (case side3 => repeat (first | exact (Kd.C_below HR0_1.out HB.out) | (with_reducible refine Kd.C_alloc ?_ _) | (with_reducible refine Kd.C_drewN ?_ _) | (with_reducible refine Kd.C_drew ?_))); (case side4 => exact HC0_1.out); rintro e w35 ⟨rfl, hb⟩; refine ⟨_, rfl, ?_⟩; have n0_ := Aside0.mk (blk_below (g := gb284) (o := .cells #[.int .i64 a0_0, .slice A0_1 l0_1.length c0_1] 30 (0, 0)) (by (with_reducible repeat (first | refine blk_drewN ?_ _ | refine blk_drew ?_ | refine blk_alloc ?_ _)); exact BK284.out) hb); have n1_ := Aside0.mk (blk_below (g := gb285) (o := .cells #[.int .i64 a1_0, .slice A1_1 l1_1.length c1_1] 30 (0, 0)) (by (with_reducible repeat (first | refine blk_drewN ?_ _ | refine blk_drew ?_ | refine blk_alloc ?_ _)); exact BK285.out) hb); have n2_ := Aside0.mk (below_step (by repeat (first | (with_reducible first | exact HB.out | apply below_alloc | apply pw_below_drewN | apply below_drew1 | refine below_set ?_ GE284.out | refine below_set ?_ GE285.out) | exact HB.out)) hb); clear BK284; clear BK285; clear HB; have BK284 := n0_; have BK285 := n1_; have HB := n2_; clear n0_ n1_ n2_; (try clear hb); (try clear hb2); (try clear hk); (try clear hi)))
        go_ret
        exact ⟨by first | rfl | (simp [errW_none, errW_some] <;> rfl) | (simp [*, errW_none, errW_some] <;> rfl), by repeat (first | (with_reducible first | exact HB.out | apply below_alloc | apply pw_below_drewN | apply below_drew1 | refine below_set ?_ GE284.out | refine below_set ?_ GE285.out) | exact HB.out)⟩
      · replace c23 := Bool.eq_false_iff.mpr c23
        subst c23
        have H1 : (some 2) = some r := by rw [if_neg (show ¬ (false = true) by decide)] at H; exact H
        clear H
        have H := H1
        clear H1
        obtain rfl := Option.some.inj H
        go_enter Try.func43, Try.ntmps43
        go_wp2_with (first | ((with_reducible refine gate_dst (N := 2) rfl ?_); refine box_event ?hg (N := 2) ?hd (cs := #[.int .i64 a0_0, .slice A0_1 l0_1.length c0_1]) (t := 30) ?hr ?_; (case hd => rfl); (case hg => rfl); (case hr => first | (go_simp; done) | (go_simp; rfl)); intro gb284 hg w36 hbox hb; have n0_ := Aside0.mk (below_step (by repeat (first | (with_reducible first | exact HB.out | apply below_alloc | apply pw_below_drewN | apply below_drew1) | exact HB.out)) hb); have n1_ := Aside0.mk (hbox); have n2_ := Aside0.mk ((by rw [hg]; exact (below_size (by repeat (first | (with_reducible first | exact HB.out | apply below_alloc | apply pw_below_drewN | apply below_drew1) | exact HB.out))) : w.heap.size ≤ gb284)); have n3_ := Aside0.mk ((by rw [hg]; exact (below_size (by repeat (first | (with_reducible first | exact HB.out | apply below_alloc | apply pw_below_drewN | apply below_drew1) | exact HB.out))) : w.heap.size ≤ gb284)); clear HB; have HB := n0_; have BK284 := n1_; have GW284 := n2_; have GE284 := n3_; clear n0_ n1_ n2_ n3_; clear hb hbox hg) | ((with_reducible refine gate_dst (N := 3) rfl ?_); refine box_event ?hg (N := 3) ?hd (cs := #[.int .i64 a1_0, .slice A1_1 l1_1.length c1_1]) (t := 30) ?hr ?_; (case hd => rfl); (case hg => rfl); (case hr => first | (go_simp; done) | (go_simp; rfl)); intro gb285 hg w37 hbox hb; have n0_ := Aside0.mk (blk_below (g := gb284) (o := .cells #[.int .i64 a0_0, .slice A0_1 l0_1.length c0_1] 30 (0, 0)) (by (with_reducible repeat (first | refine blk_drewN ?_ _ | refine blk_drew ?_ | refine blk_alloc ?_ _)); exact BK284.out) hb); have n1_ := Aside0.mk (below_step (by repeat (first | (with_reducible first | exact HB.out | apply below_alloc | apply pw_below_drewN | apply below_drew1 | refine below_set ?_ GE284.out) | exact HB.out)) hb); have n2_ := Aside0.mk (hbox); have n3_ := Aside0.mk ((by rw [hg]; exact (below_size (by repeat (first | (with_reducible first | exact HB.out | apply below_alloc | apply pw_below_drewN | apply below_drew1 | refine below_set ?_ GE284.out) | exact HB.out))) : w.heap.size ≤ gb285)); have n4_ := Aside0.mk ((by rw [hg]; exact (below_size (by repeat (first | (with_reducible first | exact HB.out | apply below_alloc | apply pw_below_drewN | apply below_drew1 | refine below_set ?_ GE284.out) | exact HB.out))) : w.heap.size ≤ gb285)); have n5_ := Aside0.mk ((by rw [hg]; exact Nat.ne_of_lt (blk_lt (g := gb284) (o := .cells #[.int .i64 a0_0, .slice A0_1 l0_1.length c0_1] 30 (0, 0)) (by (with_reducible repeat (first | refine blk_drewN ?_ _ | refine blk_drew ?_ | refine blk_alloc ?_ _)); exact BK284.out)) : gb284 ≠ gb285)); have n6_ := Aside0.mk ((by rw [hg]; exact Nat.ne_of_gt (blk_lt (g := gb284) (o := .cells #[.int .i64 a0_0, .slice A0_1 l0_1.length c0_1] 30 (0, 0)) (by (with_reducible repeat (first | refine blk_drewN ?_ _ | refine blk_drew ?_ | refine blk_alloc ?_ _)); exact BK284.out)) : gb285 ≠ gb284)); clear BK284; clear HB; have BK284 := n0_; have HB := n1_; have BK285 := n2_; have GW285 := n3_; have GE285 := n4_; have NB284_285 := n5_; have NB285_284 := n6_; clear n0_ n1_ n2_ n3_ n4_ n5_ n6_; clear hb hbox hg; have hnb38 := NB284_285.out; have hnc38 := NB285_284.out; have hcz39_0 : w37.cell? ⟨gb284, 0, none⟩ = some (.int .i64 a0_0) := (blk_cell BK284.out 0).trans rfl; have hcz39_1 : w37.cell? ⟨gb284, 1, none⟩ = some (.slice A0_1 l0_1.length c0_1) := (blk_cell BK284.out 1).trans rfl; have hfz39_0 := blk_frozen BK284.out 0; have hfz39_1 := blk_frozen BK284.out 1; have hcz40_0 : w37.cell? ⟨gb285, 0, none⟩ = some (.int .i64 a1_0) := (blk_cell BK285.out 0).trans rfl; have hcz40_1 : w37.cell? ⟨gb285, 1, none⟩ = some (.slice A1_1 l1_1.length c1_1) := (blk_cell BK285.out 1).trans rfl; have hfz40_0 := blk_frozen BK285.out 0; have hfz40_1 := blk_frozen BK285.out 1) | ((with_reducible refine gate_callee (f := 37) rfl ?_); refine goesL_ (some 8) rfl rfl Try.func37 (by kernel_rfl) rfl #[.agg #[.int .i64 a0_0, .slice A0_1 l0_1.length c0_1], .agg #[.int .i64 a1_0, .slice A1_1 l1_1.length c1_1]] rfl (by (try simp only [List.map_toArray, List.map_cons, List.map_nil]); first | done | rfl | (simp only [List.length_drop, List.length_take]; rfl)) ?_; (with_reducible refine (term_Same.calls a0_0 _ _ l0_1 a1_0 _ _ l1_1 false _ ?side1 ?side2 ?side3 ?side4 A3.out).mono ?_); (case side1 => repeat (first | exact (Kd.C_below HR0_1.out HB.out) | (with_reducible refine Kd.C_alloc ?_ _) | (with_reducible refine Kd.C_drewN ?_ _) | (with_reducible refine Kd.C_drew ?_))); (case side2 => exact HC0_1.out); (case side3 => repeat (first | exact (Kd.C_below HR1_1.out HB.out) | (with_reducible refine Kd.C_alloc ?_ _) | (with_reducible refine Kd.C_drewN ?_ _) | (with_reducible refine Kd.C_drew ?_))); (case side4 => exact HC1_1.out); rintro e w41 ⟨rfl, hb⟩; refine ⟨_, rfl, ?_⟩; have n0_ := Aside0.mk (blk_below (g := gb284) (o := .cells #[.int .i64 a0_0, .slice A0_1 l0_1.length c0_1] 30 (0, 0)) (by (with_reducible repeat (first | refine blk_drewN ?_ _ | refine blk_drew ?_ | refine blk_alloc ?_ _)); exact BK284.out) hb); have n1_ := Aside0.mk (blk_below (g := gb285) (o := .cells #[.int .i64 a1_0, .slice A1_1 l1_1.length c1_1] 30 (0, 0)) (by (with_reducible repeat (first | refine blk_drewN ?_ _ | refine blk_drew ?_ | refine blk_alloc ?_ _)); exact BK285.out) hb); have n2_ := Aside0.mk (below_step (by repeat (first | (with_reducible first | exact HB.out | apply below_alloc | apply pw_below_drewN | apply below_drew1 | refine below_set ?_ GE284.out | refine below_set ?_ GE285.out) | exact HB.out)) hb); clear BK284; clear BK285; clear HB; have BK284 := n0_; have BK285 := n1_; have HB := n2_; clear n0_ n1_ n2_; (try clear hb); (try clear hb2); (try clear hk); (try clear hi); have hcz42_0 : w41.cell? ⟨gb284, 0, none⟩ = some (.int .i64 a0_0) := (blk_cell BK284.out 0).trans rfl; have hcz42_1 : w41.cell? ⟨gb284, 1, none⟩ = some (.slice A0_1 l0_1.length c0_1) := (blk_cell BK284.out 1).trans rfl; have hfz42_0 := blk_frozen BK284.out 0; have hfz42_1 := blk_frozen BK284.out 1; have hcz43_0 : w41.cell? ⟨gb285, 0, none⟩ = some (.int .i64 a1_0) := (blk_cell BK285.out 0).trans rfl; have hcz43_1 : w41.cell? ⟨gb285, 1, none⟩ = some (.slice A1_1 l1_1.length c1_1) := (blk_cell BK285.out 1).trans rfl; have hfz43_0 := blk_frozen BK285.out 0; have hfz43_1 := blk_frozen BK285.out 1) | ((with_reducible refine gate_callee (f := 41) rfl ?_); refine goesL_ (some 12) rfl rfl Try.func41 (by kernel_rfl) rfl #[.agg #[.int .i64 a0_0, .slice A0_1 l0_1.length c0_1], .agg #[.int .i64 a1_0, .slice A1_1 l1_1.length c1_1]] rfl (by (try simp only [List.map_toArray, List.map_cons, List.map_nil]); first | done | rfl | (simp only [List.length_drop, List.length_take]; rfl)) ?_; (with_reducible refine (kbo_Greater.calls k a0_0 _ _ l0_1 a1_0 _ _ l1_1 false _ ?side1 ?side2 ?side3 ?side4 A11.out).mono ?_); (case side1 => repeat (first | exact (Kd.C_below HR0_1.out HB.out) | (with_reducible refine Kd.C_alloc ?_ _) | (with_reducible refine Kd.C_drewN ?_ _) | (with_reducible refine Kd.C_drew ?_))); (case side2 => exact HC0_1.out); (case side3 => repeat (first | exact (Kd.C_below HR1_1.out HB.out) | (with_reducible refine Kd.C_alloc ?_ _) | (with_reducible refine Kd.C_drewN ?_ _) | (with_reducible refine Kd.C_drew ?_))); (case side4 => exact HC1_1.out); rintro e w44 ⟨rfl, hb⟩; refine ⟨_, rfl, ?_⟩; have n0_ := Aside0.mk (blk_below (g := gb284) (o := .cells #[.int .i64 a0_0, .slice A0_1 l0_1.length c0_1] 30 (0, 0)) (by (with_reducible repeat (first | refine blk_drewN ?_ _ | refine blk_drew ?_ | refine blk_alloc ?_ _)); exact BK284.out) hb); have n1_ := Aside0.mk (blk_below (g := gb285) (o := .cells #[.int .i64 a1_0, .slice A1_1 l1_1.length c1_1] 30 (0, 0)) (by (with_reducible repeat (first | refine blk_drewN ?_ _ | refine blk_drew ?_ | refine blk_alloc ?_ _)); exact BK285.out) hb); have n2_ := Aside0.mk (below_step (by repeat (first | (with_reducible first | exact HB.out | apply below_alloc | apply pw_below_drewN | apply below_drew1 | refine below_set ?_ GE284.out | refine below_set ?_ GE285.out) | exact HB.out)) hb); clear BK284; clear BK285; clear HB; have BK284 := n0_; have BK285 := n1_; have HB := n2_; clear n0_ n1_ n2_; (try clear hb); (try clear hb2); (try clear hk); (try clear hi); have hcz45_0 : w44.cell? ⟨gb285, 0, none⟩ = some (.int .i64 a1_0) := (blk_cell BK285.out 0).trans rfl; have hcz45_1 : w44.cell? ⟨gb285, 1, none⟩ = some (.slice A1_1 l1_1.length c1_1) := (blk_cell BK285.out 1).trans rfl; have hfz45_0 := blk_frozen BK285.out 0; have hfz45_1 := blk_frozen BK285.out 1; have hcz46_0 : w44.cell? ⟨gb284, 0, none⟩ = some (.int .i64 a0_0) := (blk_cell BK284.out 0).trans rfl; have hcz46_1 : w44.cell? ⟨gb284, 1, none⟩ = some (.slice A0_1 l0_1.length c0_1) := (blk_cell BK284.out 1).trans rfl; have hfz46_0 := blk_frozen BK284.out 0; have hfz46_1 := blk_frozen BK284.out 1) | ((with_reducible refine gate_callee (f := 41) rfl ?_); refine goesL_ (some 16) rfl rfl Try.func41 (by kernel_rfl) rfl #[.agg #[.int .i64 a1_0, .slice A1_1 l1_1.length c1_1], .agg #[.int .i64 a0_0, .slice A0_1 l0_1.length c0_1]] rfl (by (try simp only [List.map_toArray, List.map_cons, List.map_nil]); first | done | rfl | (simp only [List.length_drop, List.length_take]; rfl)) ?_; (with_reducible refine (kbo_Greater.calls k a1_0 _ _ l1_1 a0_0 _ _ l0_1 false _ ?side1 ?side2 ?side3 ?side4 A22.out).mono ?_); (case side1 => repeat (first | exact (Kd.C_below HR1_1.out HB.out) | (with_reducible refine Kd.C_alloc ?_ _) | (with_reducible refine Kd.C_drewN ?_ _) | (with_reducible refine Kd.C_drew ?_))); (case side2 => exact HC1_1.out); (case side3 => repeat (first | exact (Kd.C_below HR0_1.out HB.out) | (with_reducible refine Kd.C_alloc ?_ _) | (with_reducible refine Kd.C_drewN ?_ _) | (with_reducible refine Kd.C_drew ?_))); (case side4 => exact HC0_1.out); rintro e w47 ⟨rfl, hb⟩; refine ⟨_, rfl, ?_⟩; have n0_ := Aside0.mk (blk_below (g := gb284) (o := .cells #[.int .i64 a0_0, .slice A0_1 l0_1.length c0_1] 30 (0, 0)) (by (with_reducible repeat (first | refine blk_drewN ?_ _ | refine blk_drew ?_ | refine blk_alloc ?_ _)); exact BK284.out) hb); have n1_ := Aside0.mk (blk_below (g := gb285) (o := .cells #[.int .i64 a1_0, .slice A1_1 l1_1.length c1_1] 30 (0, 0)) (by (with_reducible repeat (first | refine blk_drewN ?_ _ | refine blk_drew ?_ | refine blk_alloc ?_ _)); exact BK285.out) hb); have n2_ := Aside0.mk (below_step (by repeat (first | (with_reducible first | exact HB.out | apply below_alloc | apply pw_below_drewN | apply below_drew1 | refine below_set ?_ GE284.out | refine below_set ?_ GE285.out) | exact HB.out)) hb); clear BK284; clear BK285; clear HB; have BK284 := n0_; have BK285 := n1_; have HB := n2_; clear n0_ n1_ n2_; (try clear hb); (try clear hb2); (try clear hk); (try clear hi)))
        go_ret
        exact ⟨by first | rfl | (simp [errW_none, errW_some] <;> rfl) | (simp [*, errW_none, errW_some] <;> rfl), by repeat (first | (with_reducible first | exact HB.out | apply below_alloc | apply pw_below_drewN | apply below_drew1 | refine below_set ?_ GE284.out | refine below_set ?_ GE285.out) | exact HB.out)⟩
end Go.Proofs.Ytpfddihcikiofaa.P
end

section
namespace Go.Proofs.Ytpfddihcikiofaa.P
open Go.RowKit Go.Proofs.YtpfddihcikiofaaW.PrintWords Go.Proofs.YtpfddihcikiofaaW.PrintLast Go.Proofs.YtpfddihcikiofaaW.PrintMore
attribute [local go_sem] max2_int min2_int max_two min_two max_three min_three max_four min_four
set_option linter.unusedVariables false
set_option linter.unusedSimpArgs false
def soriteslaw10_alive.f (k : Nat)  : Option (Bool) := (kbo_Greater.f k 4 (([(⟨(-1), ([] : List (S30))⟩ : S30), (⟨1, ([] : List (S30))⟩ : S30)] : List (S30))) 3 (([(⟨(-1), ([] : List (S30))⟩ : S30)] : List (S30)))).bind fun t295 => (if t295 = true then ((kbo_Compare.f k (-1) ([] : List (S30)) 1 ([] : List (S30))).bind fun t296 => (some (t296 == 2))) else (some false))
set_option maxHeartbeats 8000000 in
set_option maxRecDepth 100000 in
theorem soriteslaw10_alive.calls (k : Nat)  (r : Bool) (w : World) (h : soriteslaw10_alive.f k  = some r) :
    Calls Try.prog 40 #[] w fun e w' => e = .returned (.bool r) ∧ Below w.heap.size w w' := by
  have hu30 := Try.underlying30
  have HB := Aside0.mk (Below.refl w.heap.size w)
  have H : ((kbo_Greater.f k 4 (([(⟨(-1), ([] : List (S30))⟩ : S30), (⟨1, ([] : List (S30))⟩ : S30)] : List (S30))) 3 (([(⟨(-1), ([] : List (S30))⟩ : S30)] : List (S30)))).bind fun t295 => (if t295 = true then ((kbo_Compare.f k (-1) ([] : List (S30)) 1 ([] : List (S30))).bind fun t296 => (some (t296 == 2))) else (some false))) = some r := h
  clear h
  obtain ⟨y289, hy289⟩ : ∃ y_ : List (S30), y_ = (([(⟨(-1), ([] : List (S30))⟩ : S30), (⟨1, ([] : List (S30))⟩ : S30)] : List (S30))) := ⟨_, rfl⟩
  replace H : ((kbo_Greater.f k 4 y289 3 (([(⟨(-1), ([] : List (S30))⟩ : S30)] : List (S30)))).bind fun t295 => (if t295 = true then ((kbo_Compare.f k (-1) ([] : List (S30)) 1 ([] : List (S30))).bind fun t296 => (some (t296 == 2))) else (some false))) = some r := by first | (rw [hy289]; with_reducible exact H) | (have H2_ := (Option.bind_some _ _).symm.trans H; rw [hy289]; with_reducible exact H2_) | (have H2_ := (Option.bind_some _ _).symm.trans H; with_reducible exact H2_) | with_reducible exact H | (rw [hy289]; exact H) | exact H
  have Ny289 := Aside0.mk hy289
  clear hy289
  obtain ⟨y292, hy292⟩ : ∃ y_ : List (S30), y_ = (([(⟨(-1), ([] : List (S30))⟩ : S30)] : List (S30))) := ⟨_, rfl⟩
  replace H : ((kbo_Greater.f k 4 y289 3 y292).bind fun t295 => (if t295 = true then ((kbo_Compare.f k (-1) ([] : List (S30)) 1 ([] : List (S30))).bind fun t296 => (some (t296 == 2))) else (some false))) = some r := by first | (rw [hy292]; with_reducible exact H) | (have H2_ := (Option.bind_some _ _).symm.trans H; rw [hy292]; with_reducible exact H2_) | (have H2_ := (Option.bind_some _ _).symm.trans H; with_reducible exact H2_) | with_reducible exact H | (rw [hy292]; exact H) | exact H
  have Ny292 := Aside0.mk hy292
  clear hy292
  replace H := Option.bind_eq_some_iff.mp H
  obtain ⟨t295, A10, H⟩ := H
  replace H : (if t295 = true then ((kbo_Compare.f k (-1) ([] : List (S30)) 1 ([] : List (S30))).bind fun t296 => (some (t296 == 2))) else (some false)) = some r := H
  have A1 := Aside0.mk A10
  clear A10
  by_cases c2 : t295 = true
  · subst c2
    have H1 : ((kbo_Compare.f k (-1) ([] : List (S30)) 1 ([] : List (S30))).bind fun t296 => (some (t296 == 2))) = some r := by rw [if_pos rfl] at H; exact H
    clear H
    have H := H1
    clear H1
    replace H := Option.bind_eq_some_iff.mp H
    obtain ⟨t296, A30, H⟩ := H
    replace H : (some (t296 == 2)) = some r := H
    have A3 := Aside0.mk A30
    clear A30
    obtain rfl := Option.some.inj H
    go_enter Try.func40, Try.ntmps40
    go_wp2_with (first | ((with_reducible refine gate_dst (N := 3) rfl ?_); refine Kd.R_lit k30 _ 30 ?hg (N := 3) ?hd (xs := ([(⟨(-1), ([] : List (S30))⟩ : S30), (⟨1, ([] : List (S30))⟩ : S30)] : List (S30))) (inner := [.int .i64 (-1), .slice none 0 0, .int .i64 1, .slice none 0 0]) (ok := fun _ => True) (okp := fun _ => True) ?hr ?hp (fun _ hk => hk) trivial (Below.refl _ _) (Nat.le_refl _) (by simp) ?_; (case hd => rfl); (case hg => rfl); (case hr => first | (go_simp; done) | (go_simp; rfl)); (case hp => exact (Reps.c2 (show Kd.M k30 _ _ _ (⟨(-1), ([] : List (S30))⟩ : S30) [.int .i64 (-1), .slice none 0 0] from (k30_mkM _ _ _ (⟨(-1), ([] : List (S30))⟩ : S30) (Kd.R_nil _ _ _ _ _))) (Reps.c2 (show Kd.M k30 _ _ _ (⟨1, ([] : List (S30))⟩ : S30) [.int .i64 1, .slice none 0 0] from (k30_mkM _ _ _ (⟨1, ([] : List (S30))⟩ : S30) (Kd.R_nil _ _ _ _ _))) (Reps.none _ _)))); intro v290 w4 ho5 hb hg_ hnew_; clear hg_ hnew_; (first | rw [← Ny289.out] at ho5 | (simp only [Int.reduceToNat] at ho5; rw [← Ny289.out] at ho5)); have n0_ := Aside0.mk (Kd.R_lower ho5 (below_size (by repeat (first | (with_reducible first | exact HB.out | apply below_alloc | apply pw_below_drewN | apply below_drew1) | exact HB.out)))); have n1_ := Aside0.mk (below_step (by repeat (first | (with_reducible first | exact HB.out | apply below_alloc | apply pw_below_drewN | apply below_drew1) | exact HB.out)) hb); clear HB; have HO291 := n0_; have HB := n1_; clear n0_ n1_; clear hb ho5; obtain ⟨Ao6, co6, eo6⟩ := Kd.R_slice HO291.out; subst eo6) | ((with_reducible refine gate_dst (N := 6) rfl ?_); refine Kd.R_lit k30 _ 30 ?hg (N := 6) ?hd (xs := ([(⟨(-1), ([] : List (S30))⟩ : S30)] : List (S30))) (inner := [.int .i64 (-1), .slice none 0 0]) (ok := fun _ => True) (okp := fun _ => True) ?hr ?hp (fun _ hk => hk) trivial (Below.refl _ _) (Nat.le_refl _) (by simp) ?_; (case hd => rfl); (case hg => rfl); (case hr => first | (go_simp; done) | (go_simp; rfl)); (case hp => exact (Reps.c2 (show Kd.M k30 _ _ _ (⟨(-1), ([] : List (S30))⟩ : S30) [.int .i64 (-1), .slice none 0 0] from (k30_mkM _ _ _ (⟨(-1), ([] : List (S30))⟩ : S30) (Kd.R_nil _ _ _ _ _))) (Reps.none _ _))); intro v293 w7 ho8 hb hg_ hnew_; clear hg_ hnew_; (first | rw [← Ny292.out] at ho8 | (simp only [Int.reduceToNat] at ho8; rw [← Ny292.out] at ho8)); have n0_ := Aside0.mk (Kd.R_elder' (by (with_reducible repeat (first | apply Kd.R_alloc | apply Kd.R_drewN | apply Kd.R_drew)); exact HO291.out) (Kd.R_base ho8) hb); have n1_ := Aside0.mk (Kd.R_lower (Kd.R_new' ho8 (Kd.R_lt (by (with_reducible repeat (first | apply Kd.R_alloc | apply Kd.R_drewN | apply Kd.R_drew)); exact HO291.out))) (below_size (by repeat (first | (with_reducible first | exact HB.out | apply below_alloc | apply pw_below_drewN | apply below_drew1) | exact HB.out)))); have n2_ := Aside0.mk (below_step (by repeat (first | (with_reducible first | exact HB.out | apply below_alloc | apply pw_below_drewN | apply below_drew1) | exact HB.out)) hb); clear HO291; clear HB; have HO291 := n0_; have HO294 := n1_; have HB := n2_; clear n0_ n1_ n2_; clear hb ho8; obtain ⟨Ao9, co9, eo9⟩ := Kd.R_slice HO294.out; subst eo9) | ((with_reducible refine gate_callee (f := 41) rfl ?_); refine goesL_ (some 8) rfl rfl Try.func41 (by kernel_rfl) rfl #[.agg #[.int .i64 4, .slice Ao6 y289.length co6], .agg #[.int .i64 3, .slice Ao9 y292.length co9]] rfl (by (try simp only [List.map_toArray, List.map_cons, List.map_nil]); first | done | rfl | (simp only [List.length_drop, List.length_take]; rfl)) ?_; (with_reducible refine (kbo_Greater.calls k 4 _ _ y289 3 _ _ y292 true _ ?side1 ?side2 ?side3 ?side4 A1.out).mono ?_); (case side1 => repeat (first | exact (Kd.R_reads' HO291.out).2.2 | (with_reducible refine Kd.C_alloc ?_ _) | (with_reducible refine Kd.C_drewN ?_ _) | (with_reducible refine Kd.C_drew ?_))); (case side2 => exact (Kd.R_reads' HO291.out).2.1); (case side3 => repeat (first | exact (Kd.R_reads' HO294.out).2.2 | (with_reducible refine Kd.C_alloc ?_ _) | (with_reducible refine Kd.C_drewN ?_ _) | (with_reducible refine Kd.C_drew ?_))); (case side4 => exact (Kd.R_reads' HO294.out).2.1); rintro e w10 ⟨rfl, hb⟩; refine ⟨_, rfl, ?_⟩; have n0_ := Aside0.mk (Kd.R_below (by (with_reducible repeat (first | apply Kd.R_alloc | apply Kd.R_drewN | apply Kd.R_drew)); exact HO291.out) hb); have n1_ := Aside0.mk (Kd.R_below (by (with_reducible repeat (first | apply Kd.R_alloc | apply Kd.R_drewN | apply Kd.R_drew)); exact HO294.out) hb); have n2_ := Aside0.mk (below_step (by repeat (first | (with_reducible first | exact HB.out | apply below_alloc | apply pw_below_drewN | apply below_drew1) | exact HB.out)) hb); clear HO291; clear HO294; clear HB; have HO291 := n0_; have HO294 := n1_; have HB := n2_; clear n0_ n1_ n2_; (try clear hb); (try clear hb2); (try clear hk); (try clear hi)) | (go_at_call 43; (refine (kbo_Compare.calls k (-1) _ _ ([] : List (S30)) 1 _ _ ([] : List (S30)) t296 _ ?side1 ?side2 ?side3 ?side4 A3.out).mono ?_); (case side1 => exact Kd.C_nil _ _); (case side2 => exact Nat.le_refl _); (case side3 => exact Kd.C_nil _ _); (case side4 => exact Nat.le_refl _); rintro e w11 ⟨rfl, hb⟩; have n0_ := Aside0.mk (Kd.R_below (by (with_reducible repeat (first | apply Kd.R_alloc | apply Kd.R_drewN | apply Kd.R_drew)); exact HO291.out) hb); have n1_ := Aside0.mk (Kd.R_below (by (with_reducible repeat (first | apply Kd.R_alloc | apply Kd.R_drewN | apply Kd.R_drew)); exact HO294.out) hb); have n2_ := Aside0.mk (below_step (by repeat (first | (with_reducible first | exact HB.out | apply below_alloc | apply pw_below_drewN | apply below_drew1) | exact HB.out)) hb); clear HO291; clear HO294; clear HB; have HO291 := n0_; have HO294 := n1_; have HB := n2_; clear n0_ n1_ n2_; (try clear hb); (try clear hb2); (try clear hk); (try clear hi)))
    go_ret
    exact ⟨by first | rfl | (simp [errW_none, errW_some] <;> rfl) | (simp [*, errW_none, errW_some] <;> rfl), by repeat (first | (with_reducible first | exact HB.out | apply below_alloc | apply pw_below_drewN | apply below_drew1) | exact HB.out)⟩
  · replace c2 := Bool.eq_false_iff.mpr c2
    subst c2
    have H1 : (some false) = some r := by rw [if_neg (show ¬ (false = true) by decide)] at H; exact H
    clear H
    have H := H1
    clear H1
    obtain rfl := Option.some.inj H
    go_enter Try.func40, Try.ntmps40
    go_wp2_with (first | ((with_reducible refine gate_dst (N := 3) rfl ?_); refine Kd.R_lit k30 _ 30 ?hg (N := 3) ?hd (xs := ([(⟨(-1), ([] : List (S30))⟩ : S30), (⟨1, ([] : List (S30))⟩ : S30)] : List (S30))) (inner := [.int .i64 (-1), .slice none 0 0, .int .i64 1, .slice none 0 0]) (ok := fun _ => True) (okp := fun _ => True) ?hr ?hp (fun _ hk => hk) trivial (Below.refl _ _) (Nat.le_refl _) (by simp) ?_; (case hd => rfl); (case hg => rfl); (case hr => first | (go_simp; done) | (go_simp; rfl)); (case hp => exact (Reps.c2 (show Kd.M k30 _ _ _ (⟨(-1), ([] : List (S30))⟩ : S30) [.int .i64 (-1), .slice none 0 0] from (k30_mkM _ _ _ (⟨(-1), ([] : List (S30))⟩ : S30) (Kd.R_nil _ _ _ _ _))) (Reps.c2 (show Kd.M k30 _ _ _ (⟨1, ([] : List (S30))⟩ : S30) [.int .i64 1, .slice none 0 0] from (k30_mkM _ _ _ (⟨1, ([] : List (S30))⟩ : S30) (Kd.R_nil _ _ _ _ _))) (Reps.none _ _)))); intro v290 w12 ho13 hb hg_ hnew_; clear hg_ hnew_; (first | rw [← Ny289.out] at ho13 | (simp only [Int.reduceToNat] at ho13; rw [← Ny289.out] at ho13)); have n0_ := Aside0.mk (Kd.R_lower ho13 (below_size (by repeat (first | (with_reducible first | exact HB.out | apply below_alloc | apply pw_below_drewN | apply below_drew1) | exact HB.out)))); have n1_ := Aside0.mk (below_step (by repeat (first | (with_reducible first | exact HB.out | apply below_alloc | apply pw_below_drewN | apply below_drew1) | exact HB.out)) hb); clear HB; have HO291 := n0_; have HB := n1_; clear n0_ n1_; clear hb ho13; obtain ⟨Ao14, co14, eo14⟩ := Kd.R_slice HO291.out; subst eo14) | ((with_reducible refine gate_dst (N := 6) rfl ?_); refine Kd.R_lit k30 _ 30 ?hg (N := 6) ?hd (xs := ([(⟨(-1), ([] : List (S30))⟩ : S30)] : List (S30))) (inner := [.int .i64 (-1), .slice none 0 0]) (ok := fun _ => True) (okp := fun _ => True) ?hr ?hp (fun _ hk => hk) trivial (Below.refl _ _) (Nat.le_refl _) (by simp) ?_; (case hd => rfl); (case hg => rfl); (case hr => first | (go_simp; done) | (go_simp; rfl)); (case hp => exact (Reps.c2 (show Kd.M k30 _ _ _ (⟨(-1), ([] : List (S30))⟩ : S30) [.int .i64 (-1), .slice none 0 0] from (k30_mkM _ _ _ (⟨(-1), ([] : List (S30))⟩ : S30) (Kd.R_nil _ _ _ _ _))) (Reps.none _ _))); intro v293 w15 ho16 hb hg_ hnew_; clear hg_ hnew_; (first | rw [← Ny292.out] at ho16 | (simp only [Int.reduceToNat] at ho16; rw [← Ny292.out] at ho16)); have n0_ := Aside0.mk (Kd.R_elder' (by (with_reducible repeat (first | apply Kd.R_alloc | apply Kd.R_drewN | apply Kd.R_drew)); exact HO291.out) (Kd.R_base ho16) hb); have n1_ := Aside0.mk (Kd.R_lower (Kd.R_new' ho16 (Kd.R_lt (by (with_reducible repeat (first | apply Kd.R_alloc | apply Kd.R_drewN | apply Kd.R_drew)); exact HO291.out))) (below_size (by repeat (first | (with_reducible first | exact HB.out | apply below_alloc | apply pw_below_drewN | apply below_drew1) | exact HB.out)))); have n2_ := Aside0.mk (below_step (by repeat (first | (with_reducible first | exact HB.out | apply below_alloc | apply pw_below_drewN | apply below_drew1) | exact HB.out)) hb); clear HO291; clear HB; have HO291 := n0_; have HO294 := n1_; have HB := n2_; clear n0_ n1_ n2_; clear hb ho16; obtain ⟨Ao17, co17, eo17⟩ := Kd.R_slice HO294.out; subst eo17) | ((with_reducible refine gate_callee (f := 41) rfl ?_); refine goesL_ (some 8) rfl rfl Try.func41 (by kernel_rfl) rfl #[.agg #[.int .i64 4, .slice Ao14 y289.length co14], .agg #[.int .i64 3, .slice Ao17 y292.length co17]] rfl (by (try simp only [List.map_toArray, List.map_cons, List.map_nil]); first | done | rfl | (simp only [List.length_drop, List.length_take]; rfl)) ?_; (with_reducible refine (kbo_Greater.calls k 4 _ _ y289 3 _ _ y292 false _ ?side1 ?side2 ?side3 ?side4 A1.out).mono ?_); (case side1 => repeat (first | exact (Kd.R_reads' HO291.out).2.2 | (with_reducible refine Kd.C_alloc ?_ _) | (with_reducible refine Kd.C_drewN ?_ _) | (with_reducible refine Kd.C_drew ?_))); (case side2 => exact (Kd.R_reads' HO291.out).2.1); (case side3 => repeat (first | exact (Kd.R_reads' HO294.out).2.2 | (with_reducible refine Kd.C_alloc ?_ _) | (with_reducible refine Kd.C_drewN ?_ _) | (with_reducible refine Kd.C_drew ?_))); (case side4 => exact (Kd.R_reads' HO294.out).2.1); rintro e w18 ⟨rfl, hb⟩; refine ⟨_, rfl, ?_⟩; have n0_ := Aside0.mk (Kd.R_below (by (with_reducible repeat (first | apply Kd.R_alloc | apply Kd.R_drewN | apply Kd.R_drew)); exact HO291.out) hb); have n1_ := Aside0.mk (Kd.R_below (by (with_reducible repeat (first | apply Kd.R_alloc | apply Kd.R_drewN | apply Kd.R_drew)); exact HO294.out) hb); have n2_ := Aside0.mk (below_step (by repeat (first | (with_reducible first | exact HB.out | apply below_alloc | apply pw_below_drewN | apply below_drew1) | exact HB.out)) hb); clear HO291; clear HO294; clear HB; have HO291 := n0_; have HO294 := n1_; have HB := n2_; clear n0_ n1_ n2_; (try clear hb); (try clear hb2); (try clear hk); (try clear hi)))
    go_ret
    exact ⟨by first | rfl | (simp [errW_none, errW_some] <;> rfl) | (simp [*, errW_none, errW_some] <;> rfl), by repeat (first | (with_reducible first | exact HB.out | apply below_alloc | apply pw_below_drewN | apply below_drew1) | exact HB.out)⟩
end Go.Proofs.Ytpfddihcikiofaa.P
end

section
namespace Go.Proofs.Ytpfddihcikiofaa.P
open Go.RowKit Go.Proofs.YtpfddihcikiofaaW.PrintWords Go.Proofs.YtpfddihcikiofaaW.PrintLast Go.Proofs.YtpfddihcikiofaaW.PrintMore
set_option linter.unusedVariables false
set_option linter.unusedSimpArgs false
theorem rdi_at (l : List Int) (k : Nat) (h : k < l.length) : rd l (k : Int) = l[k] := by
  unfold rd
  simp [List.getD, List.getElem?_eq_getElem h]
theorem varsN_len (l : List S30) (o : List Int) : (l.foldl varN o).length ≤ o.length + l.length := by
  induction l generalizing o with
  | nil => simp
  | cons x l ih =>
    rw [List.foldl_cons, List.length_cons]
    have := ih (varN o x)
    have h2 : (varN o x).length ≤ o.length + 1 := by
      unfold varN
      split
      · split
        · omega
        · simp
      · omega
    omega
theorem RVars_loop (q : List S30) (hq : q.length ≤ 1000000) : ∀ n i, q.length - i = n → i ≤ q.length → ∀ o : List Int, o.length ≤ i → Ev (fun k => soritesref06_Vars.l0 k q o (i : Int)) ((q.drop i).foldl varN o) := by
  intro n
  induction n with
  | zero =>
    intro i hi hle o ho
    refine Ev.step (f := fun _ => some o) (fun k => by rw [soritesref06_Vars.l0, if_neg (by omega)]) ?_
    rw [List.drop_of_length_le (by omega)]; exact Ev.now _
  | succ n ihn =>
    intro i hi hle o ho
    have hlt : i < q.length := by omega
    rw [List.drop_eq_getElem_cons hlt, List.foldl_cons]
    by_cases hneg : q[i].f0 < 0
    ·
      obtain ⟨v, hv⟩ : ∃ v, v = wrap64 (-1 - q[i].f0) := ⟨_, rfl⟩
      have inner : ∀ m j, o.length - j = m → j ≤ o.length → ∀ b : Bool, b = decide (v ∈ o.take j) → Ev (fun k => soritesref06_Vars.l1 k q o (i : Int) v b (j : Int)) ((q.drop (i + 1)).foldl varN (varN o q[i])) := by
        intro m
        induction m with
        | zero =>
          intro j hj hjle b hb
          rw [List.take_of_length_le (by omega)] at hb
          have hvn : varN o q[i] = if b = true then o else o ++ [v] := by unfold varN; rw [if_pos hneg, ← hv, hb]
          cases b with
          | true =>
            refine Ev.step (f := fun k => soritesref06_Vars.l0 k q o ((i + 1 : Nat) : Int)) (fun k => by rw [soritesref06_Vars.l1, if_neg (by omega), if_pos rfl, wsucc i q.length hlt (by omega)]) ?_
            rw [hvn, if_pos rfl]
            exact ihn (i + 1) (by omega) (by omega) o (by omega)
          | false =>
            refine Ev.step (f := fun k => soritesref06_Vars.l0 k q (o ++ [v]) ((i + 1 : Nat) : Int)) (fun k => by rw [soritesref06_Vars.l1, if_neg (by omega), if_neg (by decide), if_pos (by omega), wsucc i q.length hlt (by omega)]) ?_
            rw [hvn, if_neg (by decide)]
            exact ihn (i + 1) (by omega) (by omega) _ (by simp; omega)
        | succ m ihm =>
          intro j hj hjle b hb
          have hjl : j < o.length := by omega
          have htk : o.take (j + 1) = o.take j ++ [o[j]] := List.take_succ_eq_append_getElem hjl
          cases b with
          | true =>
            refine Ev.step (f := fun k => soritesref06_Vars.l1 k q o (i : Int) v true ((j + 1 : Nat) : Int)) (fun k => by rw [soritesref06_Vars.l1, if_pos (by omega), if_pos rfl, wsucc j o.length hjl (by omega)]) ?_
            refine ihm (j + 1) (by omega) (by omega) true ?_
            have hmem : v ∈ o.take j := of_decide_eq_true hb.symm
            exact (decide_eq_true (by rw [htk]; exact List.mem_append_left _ hmem)).symm
          | false =>
            refine Ev.step (f := fun k => soritesref06_Vars.l1 k q o (i : Int) v (o[j] == v) ((j + 1 : Nat) : Int)) (fun k => by rw [soritesref06_Vars.l1, if_pos (by omega), if_neg (by decide), if_pos (by omega), rdi_at o j hjl, wsucc j o.length hjl (by omega)]) ?_
            refine ihm (j + 1) (by omega) (by omega) _ ?_
            have hmem : ¬ v ∈ o.take j := of_decide_eq_false hb.symm
            rw [htk, Bool.eq_iff_iff]
            simp only [beq_iff_eq, decide_eq_true_eq, List.mem_append, List.mem_singleton]
            exact ⟨fun e => .inr e.symm, fun h => h.elim (fun h => absurd h hmem) (fun e => e.symm)⟩
      refine Ev.step (f := fun k => soritesref06_Vars.l1 k q o (i : Int) v false 0) (fun k => by rw [soritesref06_Vars.l0, if_pos (by omega), if_pos (by omega), rd24_at q i hlt, if_neg (by omega), hv]) ?_
      exact inner o.length 0 (by omega) (by omega) false (by simp)
    · refine Ev.step (f := fun k => soritesref06_Vars.l0 k q o ((i + 1 : Nat) : Int)) (fun k => by rw [soritesref06_Vars.l0, if_pos (by omega), if_pos (by omega), rd24_at q i hlt, if_pos (by omega), wsucc i q.length hlt (by omega)]) ?_
      have hvn : varN o q[i] = o := by unfold varN; rw [if_neg hneg]
      rw [hvn]
      exact ihn (i + 1) (by omega) (by omega) o (by omega)
theorem RVars_spec (t : S30) (h : fit t) : Ev (fun k => soritesref06_Vars.f k t.f0 t.f1) (varsN (nodes t)) := by
  unfold soritesref06_Vars.f
  refine Ev.bind (RFlat_spec t h) ?_
  have := RVars_loop (nodes t) h.1 _ 0 rfl (by omega) [] (by simp)
  simpa [varsN] using this
theorem Rcount_spec (t : S30) (h : fit t) (v : Int) (hv : -1000000 ≤ v ∧ v ≤ 1000000) : Ev (fun k => soritesref10_count.f k t.f0 t.f1 v) (countN (-1 - v) (nodes t) : Int) := by
  unfold soritesref10_count.f
  refine Ev.bind (RFlat_spec t h) ?_
  have hlen := h.1
  generalize nodes t = q at hlen
  have key : ∀ n i, q.length - i = n → i ≤ q.length → Ev (fun k => soritesref10_count.l0 k v q (countN (-1 - v) (q.take i) : Int) (i : Int)) (countN (-1 - v) q : Int) := by
    intro n
    induction n with
    | zero =>
      intro i hi hle
      refine Ev.step (f := fun _ => some (countN (-1 - v) (q.take i) : Int)) (fun k => by rw [soritesref10_count.l0, if_neg (by omega)]) ?_
      rw [List.take_of_length_le (by omega)]; exact Ev.now _
    | succ n ihn =>
      intro i hi hle
      have hlt : i < q.length := by omega
      have h2 := ihn (i + 1) (by omega) (by omega)
      have hb := countN_le (-1 - v) (q.take i)
      rw [List.length_take] at hb
      have htk : countN (-1 - v) (q.take (i + 1)) = countN (-1 - v) (q.take i) + (if q[i].f0 = -1 - v then 1 else 0) := by
        rw [List.take_succ_eq_append_getElem hlt, countN_append]
        congr 1
        unfold countN
        by_cases he : q[i].f0 = -1 - v
        · simp [he]
        · simp [he]
      rw [htk] at h2
      by_cases he : q[i].f0 = -1 - v
      · rw [if_pos he] at h2
        refine Ev.step (f := fun k => soritesref10_count.l0 k v q ((countN (-1 - v) (q.take i) + 1 : Nat) : Int) ((i + 1 : Nat) : Int)) (fun k => ?_) h2
        rw [soritesref10_count.l0, if_pos (by omega), if_pos (by omega), rd24_at q i hlt, w64 (-1 - v) (by omega), if_pos he, wsucc i q.length hlt (by omega), wsucc _ 1000000 (by omega) (by omega)]
      · rw [if_neg he, Nat.add_zero] at h2
        refine Ev.step (f := fun k => soritesref10_count.l0 k v q ((countN (-1 - v) (q.take i) : Nat) : Int) ((i + 1 : Nat) : Int)) (fun k => ?_) h2
        rw [soritesref10_count.l0, if_pos (by omega), if_pos (by omega), rd24_at q i hlt, w64 (-1 - v) (by omega), if_neg he, wsucc i q.length hlt (by omega)]
  have := key q.length 0 rfl (by omega)
  simpa [countN] using this
theorem mem_varsN {l : List S30} {v : Int} : v ∈ varsN l ↔ ∃ x ∈ l, x.f0 < 0 ∧ v = wrap64 (-1 - x.f0) := by
  unfold varsN
  rw [mem_foldl]
  simp
theorem RCovers_spec (a b : S30) (ha : fit a) (hb : fit b) : Ev (fun k => soritesref10_Covers.f k a.f0 a.f1 b.f0 b.f1) (covT a b) := by
  unfold soritesref10_Covers.f
  refine Ev.bind (RVars_spec b hb) ?_
  have hvl : (varsN (nodes b)).length ≤ 1000000 := by
    have := varsN_len (nodes b) []
    have := hb.1
    simp only [List.length_nil] at *
    unfold varsN
    omega
  have hvr : ∀ v ∈ varsN (nodes b), 0 ≤ v ∧ v ≤ 1000000 := by
    intro v hv
    obtain ⟨x, hx, hneg, rfl⟩ := mem_varsN.1 hv
    have := hb.2 x hx
    rw [w64 _ (by omega)]
    omega
  have hc : covT a b = (varsN (nodes b)).all fun v => decide (countN (-1 - v) (nodes b) ≤ countN (-1 - v) (nodes a)) := by
    rw [Bool.eq_iff_iff]
    unfold covT
    rw [List.all_eq_true, List.all_eq_true]
    constructor
    · intro h v hv
      obtain ⟨x, hx, hneg, rfl⟩ := mem_varsN.1 hv
      have h1 := hb.2 x hx
      have h2 := h x hx
      rw [w64 _ (by omega), show -1 - (-1 - x.f0) = x.f0 by omega]
      rw [Bool.or_eq_true, decide_eq_true_eq] at h2
      exact h2.resolve_left (by omega)
    · intro h x hx
      rw [Bool.or_eq_true, decide_eq_true_eq]
      by_cases hneg : x.f0 < 0
      · right
        have h1 := hb.2 x hx
        have h2 := h (wrap64 (-1 - x.f0)) (mem_varsN.2 ⟨x, hx, hneg, rfl⟩)
        rw [w64 _ (by omega), show -1 - (-1 - x.f0) = x.f0 by omega] at h2
        exact h2
      · left; omega
  rw [hc]
  generalize varsN (nodes b) = q at hvl hvr
  have key : ∀ n i, q.length - i = n → i ≤ q.length → Ev (fun k => soritesref10_Covers.l0 k q (i : Int) a.f0 a.f1 b.f0 b.f1) ((q.drop i).all fun v => decide (countN (-1 - v) (nodes b) ≤ countN (-1 - v) (nodes a))) := by
    intro n
    induction n with
    | zero =>
      intro i hi hle
      refine Ev.step (f := fun _ => some true) (fun k => by rw [soritesref10_Covers.l0, if_neg (by omega)]) ?_
      rw [List.drop_of_length_le (by omega)]; exact Ev.now _
    | succ n ihn =>
      intro i hi hle
      have hlt : i < q.length := by omega
      have hr := hvr q[i] (List.getElem_mem hlt)
      refine Ev.step (f := fun k => (soritesref10_count.f k b.f0 b.f1 q[i]).bind fun t => (soritesref10_count.f k a.f0 a.f1 q[i]).bind fun u => if t > u then some false else soritesref10_Covers.l0 k q ((i + 1 : Nat) : Int) a.f0 a.f1 b.f0 b.f1) (fun k => by rw [soritesref10_Covers.l0, if_pos (by omega), if_pos (by omega), rdi_at q i hlt, wsucc i q.length hlt (by omega)]) ?_
      refine Ev.bind (Rcount_spec b hb q[i] (by omega)) (Ev.bind (Rcount_spec a ha q[i] (by omega)) ?_)
      rw [List.drop_eq_getElem_cons hlt, List.all_cons]
      by_cases hgt : (countN (-1 - q[i]) (nodes b) : Int) > countN (-1 - q[i]) (nodes a)
      · simp only [if_pos hgt]
        rw [decide_eq_false (by omega)]
        exact Ev.now _
      · simp only [if_neg hgt]
        rw [decide_eq_true (by omega), Bool.true_and]
        exact ihn (i + 1) (by omega) (by omega)
  have := key q.length 0 rfl (by omega)
  simpa using this
mutual
def gtT : S30 → S30 → Bool
  | ⟨f, l⟩, ⟨g, m⟩ => covT ⟨f, l⟩ ⟨g, m⟩ && (if (nodes ⟨f, l⟩).length = (nodes ⟨g, m⟩).length then (if f < 0 ∨ g < 0 then false else if f = g then (if l.length = m.length then gtTs l m else decide (m.length < l.length)) else decide (g < f)) else decide ((nodes ⟨g, m⟩).length < (nodes ⟨f, l⟩).length))
def gtTs : List S30 → List S30 → Bool
  | [], _ => false
  | _ :: _, [] => false
  | x :: l, y :: m => if cmpT x y = 0 then gtTs l m else gtT x y
end
theorem gtTs_drop (l m : List S30) (k : Nat) (hl : k < l.length) (hm : k < m.length) : gtTs (l.drop k) (m.drop k) = if cmpT l[k] m[k] = 0 then gtTs (l.drop (k + 1)) (m.drop (k + 1)) else gtT l[k] m[k] := by
  rw [List.drop_eq_getElem_cons hl, List.drop_eq_getElem_cons hm, gtTs]
def kcmp (a b : S30) : Int := if cmpT a b = 0 then 0 else if gtT a b = true then 1 else if gtT b a = true then -1 else 2
theorem orI2_f (a b : Int) : Ev (fun k => cmp_Or_int.f k [a, b]) (if a = 0 then b else a) := by
  refine ⟨3, fun k hk => ?_⟩
  obtain ⟨n, rfl⟩ : ∃ n, k = n + 3 := ⟨k - 3, by omega⟩
  simp only [cmp_Or_int.f, cmp_Or_int.l0, rd, List.length_cons, List.length_nil, wrap64]
  by_cases ha : a = 0
  · by_cases hb : b = 0
    · simp [ha, hb]
    · simp [ha, hb]
  · simp [ha]
theorem Size_fit {t : S30} (h : fit t) : term_Size.f t.f0 t.f1 = some ((nodes t).length : Int) := Size_is (by have := h.1; omega)
theorem fitB_of {t : S30} (h : fit t) : fitB t = true := (fitB_iff t).2 h
theorem Cov_of {a b : S30} (ha : fit a) (hb : fit b) : kbo_Covers.f a.f0 a.f1 b.f0 b.f1 = some (covT a b) := by
  unfold kbo_Covers.f
  rw [S30.eta, S30.eta, fitB_of ha, fitB_of hb]
  rfl
theorem KGreater_spec : ∀ a b : S30, fit a → fit b → Ev (fun k => kbo_Greater.f k a.f0 a.f1 b.f0 b.f1) (gtT a b) := by
  refine S30.ind ?_
  intro f l ih b ha hb
  obtain ⟨g, m⟩ := b
  have hsa := Size_fit ha
  have hsb := Size_fit hb
  have hcv := Cov_of ha hb
  simp only [] at hsa hsb hcv
  rw [gtT]
  by_cases hc : covT ⟨f, l⟩ ⟨g, m⟩ = true
  · rw [hc, Bool.true_and]
    rw [hc] at hcv
    by_cases hn : (nodes ⟨f, l⟩).length = (nodes ⟨g, m⟩).length
    · rw [if_pos hn]
      have hstep : ∀ k, kbo_Greater.f (k + 1) f l g m = kbo_Greater.j0 k (decide (f < 0 ∨ g < 0)) f l g m := fun k => by
        rw [kbo_Greater.f, hcv]
        simp only [Option.bind_some, if_true, hsa, hsb, cmpI_f]
        rw [hn, cmpI_self, if_pos rfl]
        by_cases hf : f < 0
        · rw [if_pos hf, decide_eq_true (.inl hf)]
        · rw [if_neg hf]
          by_cases hg : g < 0
          · rw [decide_eq_true hg, decide_eq_true (.inr hg)]
          · rw [decide_eq_false hg, decide_eq_false (by omega)]
      refine Ev.step (f := fun k => kbo_Greater.j0 k (decide (f < 0 ∨ g < 0)) f l g m) hstep ?_
      by_cases hv : f < 0 ∨ g < 0
      · rw [if_pos hv, decide_eq_true hv]
        exact Ev.step (f := fun _ => some false) (fun k => by rw [kbo_Greater.j0, if_pos rfl]) (Ev.now _)
      · rw [if_neg hv, decide_eq_false hv]
        refine Ev.step (f := fun k => (cmp_Or_int.f k [cmpI f g, cmpI l.length m.length]).bind fun t => if t = 0 then kbo_Greater.l0 k l (l.length : Int) 0 g m else some (decide (t > 0))) (fun k => by rw [kbo_Greater.j0, if_neg (by decide)]; simp only [cmpI_f, Option.bind_some]) (Ev.bind (orI2_f _ _) ?_)
        by_cases hfg : f = g
        · subst hfg
          rw [if_pos rfl, cmpI_self, if_pos rfl]
          have hf : ¬ f < 0 := fun h => hv (.inl h)
          obtain ⟨hll, hsub⟩ := fit_sub hf ha
          obtain ⟨hml, hsubm⟩ := fit_sub hf hb
          by_cases hlm : l.length = m.length
          · rw [if_pos hlm, hlm, cmpI_self]
            simp only [if_true]
            have key : ∀ n i, l.length - i = n → i ≤ l.length → Ev (fun k => kbo_Greater.l0 k l (m.length : Int) (i : Int) f m) (gtTs (l.drop i) (m.drop i)) := by
              intro n
              induction n with
              | zero =>
                intro i hi hle
                refine Ev.step (f := fun _ => some false) (fun k => by rw [kbo_Greater.l0, if_neg (by omega)]) ?_
                rw [List.drop_of_length_le (by omega), gtTs]; exact Ev.now _
              | succ n ihn =>
                intro i hi hle
                have hlt : i < l.length := by omega
                have hltm : i < m.length := by omega
                have hmem := List.getElem_mem hlt
                refine Ev.step (f := fun k => if (cmpT l[i] m[i] == 0) = true then kbo_Greater.l0 k l (m.length : Int) ((i + 1 : Nat) : Int) f m else (kbo_Greater.f k l[i].f0 l[i].f1 m[i].f0 m[i].f1).bind fun t => some t) (fun k => ?_) ?_
                · rw [kbo_Greater.l0, if_pos (by omega), if_pos (by omega), if_pos (by omega), if_pos (by omega), rdC_at l i hlt, rdC_at m i hltm, wsucc i l.length hlt (by omega), Same_of]
                  rfl
                · rw [gtTs_drop l m i hlt hltm]
                  by_cases h0 : cmpT l[i] m[i] = 0
                  · simp only [h0, beq_self_eq_true, if_true]
                    exact ihn (i + 1) (by omega) (by omega)
                  · rw [if_neg h0]
                    have : (cmpT l[i] m[i] == 0) = false := by simpa using h0
                    simp only [this, Bool.false_eq_true, if_false]
                    exact Ev.bind (ih l[i] hmem m[i] (hsub _ hmem) (hsubm _ (List.getElem_mem hltm))) (Ev.now _)
            have := key l.length 0 rfl (by omega)
            simpa using this
          · rw [if_neg hlm]
            have h1 : cmpI (l.length : Int) m.length ≠ 0 := cmpI_ne (by omega)
            simp only [if_neg h1]
            have : decide (cmpI (l.length : Int) m.length > 0) = decide (m.length < l.length) := by
              rw [decide_eq_decide]
              unfold cmpI
              (repeat' split) <;> omega
            rw [this]; exact Ev.now _
        · rw [if_neg hfg]
          have h1 := cmpI_ne hfg
          simp only [if_neg h1]
          have : decide (cmpI f g > 0) = decide (g < f) := by
            rw [decide_eq_decide]
            unfold cmpI
            (repeat' split) <;> omega
          rw [this]; exact Ev.now _
    · rw [if_neg hn]
      refine Ev.step (f := fun _ => some (decide ((nodes ⟨g, m⟩).length < (nodes ⟨f, l⟩).length))) (fun k => ?_) (Ev.now _)
      rw [kbo_Greater.f, hcv]
      simp only [Option.bind_some, if_true, hsa, hsb, cmpI_f]
      have h1 : cmpI ((nodes ⟨f, l⟩).length : Int) (nodes ⟨g, m⟩).length ≠ 0 := cmpI_ne (by omega)
      rw [if_neg h1]
      congr 1
      rw [decide_eq_decide]
      unfold cmpI
      (repeat' split) <;> omega
  · have hcf : covT ⟨f, l⟩ ⟨g, m⟩ = false := by simpa using hc
    rw [hcf, Bool.false_and]
    rw [hcf] at hcv
    refine Ev.step (f := fun _ => some false) (fun k => ?_) (Ev.now _)
    rw [kbo_Greater.f, hcv]
    rfl
theorem cmp_len : ∀ a b : S30, cmpT a b = 0 → (nodes a).length = (nodes b).length := by
  refine S30.ind ?_
  intro f l ih b h
  obtain ⟨g, m⟩ := b
  have hfg : f = g := by
    rcases Decidable.em (f = g) with e | e
    · exact e
    · exfalso
      have h1 := cmpI_ne e
      have h2 := cmpI_ne (fun e' => e e'.symm)
      simp only [cmpT] at h
      split at h
      · split at h <;> contradiction
      · unfold orI at h; rw [if_neg h1] at h; contradiction
  subst hfg
  by_cases hf : f < 0
  · simp [nodes, hf]
  · have hlm : l.length = m.length := by
      rcases Decidable.em (l.length = m.length) with e | e
      · exact e
      · exfalso
        have h1 : cmpI (l.length : Int) m.length ≠ 0 := cmpI_ne (by omega)
        simp [cmpT, hf, cmpI_self, orI, h1] at h
    have hc : cmpTs l m = 0 := by simpa [cmpT, hf, cmpI_self, hlm, orI] using h
    have key : ∀ (l m : List S30), (∀ x ∈ l, ∀ y, cmpT x y = 0 → (nodes x).length = (nodes y).length) → l.length = m.length → cmpTs l m = 0 → (nodess l).length = (nodess m).length := by
      intro l
      induction l with
      | nil => intro m _ hl _; cases m with
        | nil => rfl
        | cons => simp at hl
      | cons x l ihl =>
        intro m h hl hc
        cases m with
        | nil => simp at hl
        | cons y m =>
          rw [cmpTs] at hc
          split at hc
          · rename_i h0
            rw [nodess, nodess, List.length_append, List.length_append, h x (by simp) y h0, ihl m (fun x hx => h x (by simp [hx])) (by simpa using hl) hc]
          · rename_i h0; contradiction
    have := key l m (fun x hx y => ih x hx y) hlm hc
    simp [nodes, hf, this]
theorem gtTs_same : ∀ l m : List S30, cmpTs l m = 0 → gtTs l m = false
  | [], _, _ => by rw [gtTs]
  | _ :: _, [], _ => by rw [gtTs]
  | x :: l, y :: m, h => by
    rw [cmpTs] at h
    split at h
    · rename_i h0
      rw [gtTs, if_pos h0]
      exact gtTs_same l m h
    · rename_i h0; contradiction
theorem cmp_zero {f g : Int} {l m : List S30} (h : cmpT ⟨f, l⟩ ⟨g, m⟩ = 0) : f = g ∧ (¬ f < 0 → l.length = m.length ∧ cmpTs l m = 0) := by
  have hfg : f = g := by
    rcases Decidable.em (f = g) with e | e
    · exact e
    · exfalso
      have h1 := cmpI_ne e
      have h2 := cmpI_ne (fun e' => e e'.symm)
      simp only [cmpT] at h
      split at h
      · split at h <;> contradiction
      · unfold orI at h; rw [if_neg h1] at h; contradiction
  subst hfg
  refine ⟨rfl, fun hf => ?_⟩
  have hlm : l.length = m.length := by
    rcases Decidable.em (l.length = m.length) with e | e
    · exact e
    · exfalso
      have h1 : cmpI (l.length : Int) m.length ≠ 0 := cmpI_ne (by omega)
      simp [cmpT, hf, cmpI_self, orI, h1] at h
  exact ⟨hlm, by simpa [cmpT, hf, cmpI_self, hlm, orI] using h⟩
theorem gt_same {a b : S30} (h : cmpT a b = 0) : gtT a b = false := by
  have hl := cmp_len a b h
  obtain ⟨f, l⟩ := a
  obtain ⟨g, m⟩ := b
  obtain ⟨rfl, h2⟩ := cmp_zero h
  rw [gtT, if_pos hl]
  by_cases hf : f < 0
  · rw [if_pos (.inl hf), Bool.and_false]
  · obtain ⟨h3, h4⟩ := h2 hf
    rw [if_neg (by omega), if_pos rfl, if_pos h3, gtTs_same l m h4, Bool.and_false]
theorem RGreater_spec : ∀ a b : S30, fit a → fit b → Ev (fun k => soritesref10_Greater.f k a.f0 a.f1 b.f0 b.f1) (gtT a b) := by
  refine S30.ind ?_
  intro f l ih b ha hb
  obtain ⟨g, m⟩ := b
  refine Ev.step (f := fun k => (soritesref06_Same.f k f l g m).bind fun t => if t = true then soritesref10_Greater.j0 k true f l g m else (soritesref10_Covers.f k f l g m).bind fun u => soritesref10_Greater.j0 k (!u) f l g m) (fun k => by rw [soritesref10_Greater.f]) ?_
  refine Ev.bind (RSame_spec ⟨f, l⟩ ⟨g, m⟩ ha) ?_
  by_cases hs : cmpT ⟨f, l⟩ ⟨g, m⟩ = 0
  · rw [gt_same hs, hs]
    simp only [beq_self_eq_true, if_true]
    exact Ev.step (f := fun _ => some false) (fun k => by rw [soritesref10_Greater.j0, if_pos rfl]) (Ev.now _)
  · have hs' : (cmpT ⟨f, l⟩ ⟨g, m⟩ == 0) = false := by simpa using hs
    simp only [hs', Bool.false_eq_true, if_false]
    refine Ev.bind (RCovers_spec ⟨f, l⟩ ⟨g, m⟩ ha hb) ?_
    rw [gtT]
    by_cases hc : covT ⟨f, l⟩ ⟨g, m⟩ = true
    · rw [hc, Bool.true_and]
      simp only [Bool.not_true]
      refine Ev.step (f := fun k => (soritesref06_Flat.f k f l).bind fun t => (soritesref06_Flat.f k g m).bind fun u => if (t.length : Int) = (u.length : Int) then (if f < 0 then soritesref10_Greater.j1 k (t.length : Int) (u.length : Int) true f l g m else soritesref10_Greater.j1 k (t.length : Int) (u.length : Int) (decide (g < 0)) f l g m) else soritesref10_Greater.j1 k (t.length : Int) (u.length : Int) true f l g m) (fun k => by rw [soritesref10_Greater.j0, if_neg (by decide)]) ?_
      refine Ev.bind (RFlat_spec ⟨f, l⟩ ha) (Ev.bind (RFlat_spec ⟨g, m⟩ hb) ?_)
      have hstop : ∀ b : Bool, b = decide ((nodes ⟨g, m⟩).length < (nodes ⟨f, l⟩).length) → Ev (fun k => soritesref10_Greater.j1 k ((nodes ⟨f, l⟩).length : Int) ((nodes ⟨g, m⟩).length : Int) true f l g m) b := fun b hb => by
        refine Ev.step (f := fun _ => some (decide (((nodes ⟨f, l⟩).length : Int) > ((nodes ⟨g, m⟩).length : Int)))) (fun k => by rw [soritesref10_Greater.j1, if_pos rfl]) ?_
        rw [hb, show decide (((nodes ⟨f, l⟩).length : Int) > ((nodes ⟨g, m⟩).length : Int)) = decide ((nodes ⟨g, m⟩).length < (nodes ⟨f, l⟩).length) by rw [decide_eq_decide]; omega]
        exact Ev.now _
      by_cases hn : (nodes ⟨f, l⟩).length = (nodes ⟨g, m⟩).length
      · rw [if_pos hn]
        simp only [if_pos (show ((nodes ⟨f, l⟩).length : Int) = ((nodes ⟨g, m⟩).length : Int) by omega)]
        have hz : false = decide ((nodes ⟨g, m⟩).length < (nodes ⟨f, l⟩).length) := (decide_eq_false (by omega)).symm
        by_cases hf : f < 0
        · simp only [if_pos hf]
          rw [if_pos (.inl hf)]
          exact hstop false hz
        · simp only [if_neg hf]
          by_cases hg : g < 0
          · rw [if_pos (.inr hg), decide_eq_true hg]
            exact hstop false hz
          · rw [if_neg (by omega), decide_eq_false hg]
            by_cases hfg : f = g
            · subst hfg
              rw [if_pos rfl]
              obtain ⟨hll, hsub⟩ := fit_sub hf ha
              obtain ⟨hml, hsubm⟩ := fit_sub hf hb
              by_cases hlm : l.length = m.length
              · rw [if_pos hlm]
                refine Ev.step (f := fun k => soritesref10_Greater.l0 k 0 f l f m) (fun k => by rw [soritesref10_Greater.j1, if_neg (by decide), if_pos rfl, if_pos (by omega)]) ?_
                have hcs : cmpTs l m ≠ 0 := fun h0 => hs (by simp [cmpT, hf, cmpI_self, hlm, orI, h0])
                have key : ∀ n i, l.length - i = n → i ≤ l.length → cmpTs (l.drop i) (m.drop i) ≠ 0 → Ev (fun k => soritesref10_Greater.l0 k (i : Int) f l f m) (gtTs (l.drop i) (m.drop i)) := by
                  intro n
                  induction n with
                  | zero =>
                    intro i hi hle h0
                    exfalso
                    apply h0
                    rw [List.drop_of_length_le (by omega), List.drop_of_length_le (by omega), cmpTs]
                  | succ n ihn =>
                    intro i hi hle hne
                    have hlt : i < l.length := by omega
                    have hltm : i < m.length := by omega
                    have hmem := List.getElem_mem hlt
                    refine Ev.step (f := fun k => (soritesref06_Same.f k l[i].f0 l[i].f1 m[i].f0 m[i].f1).bind fun t => if t = true then soritesref10_Greater.l0 k ((i + 1 : Nat) : Int) f l f m else (soritesref10_Greater.f k l[i].f0 l[i].f1 m[i].f0 m[i].f1).bind fun t => some t) (fun k => ?_) (Ev.bind (RSame_spec l[i] m[i] (hsub _ hmem)) ?_)
                    · rw [soritesref10_Greater.l0, if_pos (by omega), if_pos (by omega), if_pos (by omega), rd24_at l i hlt, rd24_at m i hltm, wsucc i l.length hlt (by omega)]
                    · rw [gtTs_drop l m i hlt hltm]
                      rw [cmpTs_drop l m i hlt hltm] at hne
                      by_cases h0 : cmpT l[i] m[i] = 0
                      · simp only [h0, beq_self_eq_true, if_true]
                        rw [if_pos h0] at hne
                        exact ihn (i + 1) (by omega) (by omega) hne
                      · rw [if_neg h0]
                        have : (cmpT l[i] m[i] == 0) = false := by simpa using h0
                        simp only [this, Bool.false_eq_true, if_false]
                        exact Ev.bind (ih l[i] hmem m[i] (hsub _ hmem) (hsubm _ (List.getElem_mem hltm))) (Ev.now _)
                have := key l.length 0 rfl (by omega) (by simpa using hcs)
                simpa using this
              · rw [if_neg hlm]
                refine Ev.step (f := fun _ => some (decide ((l.length : Int) > (m.length : Int)))) (fun k => by rw [soritesref10_Greater.j1, if_neg (by decide), if_pos rfl, if_neg (by omega)]) ?_
                rw [show decide ((l.length : Int) > (m.length : Int)) = decide (m.length < l.length) by rw [decide_eq_decide]; omega]
                exact Ev.now _
            · rw [if_neg hfg]
              exact Ev.step (f := fun _ => some (decide (f > g))) (fun k => by rw [soritesref10_Greater.j1, if_neg (by decide), if_neg hfg]) (Ev.now _)
      · rw [if_neg hn]
        simp only [if_neg (show ¬ ((nodes ⟨f, l⟩).length : Int) = ((nodes ⟨g, m⟩).length : Int) by omega)]
        exact hstop _ rfl
    · have hcf : covT ⟨f, l⟩ ⟨g, m⟩ = false := by simpa using hc
      rw [hcf, Bool.false_and]
      simp only [Bool.not_false]
      exact Ev.step (f := fun _ => some false) (fun k => by rw [soritesref10_Greater.j0, if_pos rfl]) (Ev.now _)
theorem KCompare_spec (a b : S30) (ha : fit a) (hb : fit b) : Ev (fun k => kbo_Compare.f k a.f0 a.f1 b.f0 b.f1) (kcmp a b) := by
  unfold kbo_Compare.f kcmp
  simp only [Same_of, Option.bind_some]
  by_cases h0 : cmpT a b = 0
  · simp only [h0, beq_self_eq_true, if_true]; exact Ev.now _
  · have : (cmpT a b == 0) = false := by simpa using h0
    simp only [this, Bool.false_eq_true, if_false, if_neg h0]
    refine Ev.bind (KGreater_spec a b ha hb) ?_
    by_cases h1 : gtT a b = true
    · simp only [h1, if_true]; exact Ev.now _
    · simp only [if_neg h1]
      refine Ev.bind (KGreater_spec b a hb ha) ?_
      by_cases h2 : gtT b a = true
      · simp only [h2, if_true]; exact Ev.now _
      · simp only [if_neg h2]; exact Ev.now _
theorem RCompare_spec (a b : S30) (ha : fit a) (hb : fit b) : Ev (fun k => soritesref10_Compare.f k a.f0 a.f1 b.f0 b.f1) (kcmp a b) := by
  unfold soritesref10_Compare.f kcmp
  refine Ev.bind (RSame_spec a b ha) ?_
  by_cases h0 : cmpT a b = 0
  · simp only [h0, beq_self_eq_true, if_true]; exact Ev.now _
  · have : (cmpT a b == 0) = false := by simpa using h0
    simp only [this, Bool.false_eq_true, if_false, if_neg h0]
    refine Ev.bind (RGreater_spec a b ha hb) ?_
    by_cases h1 : gtT a b = true
    · simp only [h1, if_true]; exact Ev.now _
    · simp only [if_neg h1]
      refine Ev.bind (RGreater_spec b a hb ha) ?_
      by_cases h2 : gtT b a = true
      · simp only [h2, if_true]; exact Ev.now _
      · simp only [if_neg h2]; exact Ev.now _
theorem fit_of_ok : ∀ t : S30, ok t → (nodes t).length ≤ 1000000 → fit t := by
  have key : ∀ t : S30, ok t → SmallN t := by
    refine S30.ind ?_
    intro f l ih h
    obtain ⟨h1, h2, h3, h4⟩ := h
    have hl : ∀ y ∈ nodess l, -1000000 ≤ y.f0 ∧ y.f0 ≤ 1000000 := by
      have := oks_mem h4
      clear h1 h2 h3 h4
      induction l with
      | nil => intro y hy; cases hy
      | cons x l ihl =>
        intro y hy
        rw [nodess, List.mem_append] at hy
        rcases hy with hy | hy
        · exact ih x (by simp) (this x (by simp)) y hy
        · exact ihl (fun x hx => ih x (by simp [hx])) (fun x hx => this x (by simp [hx])) y hy
    intro y hy
    rw [nodes] at hy
    rcases List.mem_cons.1 hy with rfl | hy
    · exact ⟨by show -1000000 ≤ f; omega, by show f ≤ 1000000; omega⟩
    · split at hy
      · cases hy
      · exact hl y hy
  intro t h hn
  exact ⟨hn, key t h⟩
theorem alive10 : Ev (fun k => soriteslaw10_alive.f k) true := by
  have f1 : fit ⟨4, [⟨-1, []⟩, ⟨1, []⟩]⟩ := fitB_iff _ |>.1 (by decide)
  have f2 : fit ⟨3, [⟨-1, []⟩]⟩ := fitB_iff _ |>.1 (by decide)
  have f3 : fit ⟨-1, []⟩ := fitB_iff _ |>.1 (by decide)
  have f4 : fit ⟨1, []⟩ := fitB_iff _ |>.1 (by decide)
  unfold soriteslaw10_alive.f
  refine Ev.bind (KGreater_spec ⟨4, [⟨-1, []⟩, ⟨1, []⟩]⟩ ⟨3, [⟨-1, []⟩]⟩ f1 f2) ?_
  rw [show gtT ⟨4, [⟨-1, []⟩, ⟨1, []⟩]⟩ ⟨3, [⟨-1, []⟩]⟩ = true by decide]
  simp only [if_true]
  refine Ev.bind (KCompare_spec ⟨-1, []⟩ ⟨1, []⟩ f3 f4) ?_
  rw [show kcmp ⟨-1, []⟩ ⟨1, []⟩ = 2 by decide]
  exact Ev.now _
end Go.Proofs.Ytpfddihcikiofaa.P
end

section
namespace Go.Proofs.Ytpfddihcikiofaa.P
open Go.RowKit Go.Proofs.YtpfddihcikiofaaW.PrintWords Go.Proofs.YtpfddihcikiofaaW.PrintLast Go.Proofs.YtpfddihcikiofaaW.PrintMore
set_option linter.unusedVariables false
set_option linter.unusedSimpArgs false
set_option maxHeartbeats 4000000 in
set_option maxRecDepth 100000 in
theorem KboTells_r6 {id : Nat} {a : Act} {w : World} {Q : Exit → Act → World → Prop} {ga gb gc gd : Nat} {xf xl yf yl af al bf bl : Value} {s c : Bool} {k : Int}
    (hr : regionOk #[{ dst := some 18, op := Op.load 30 (Operand.tmp 5), type := 30, pos := "law.go:30", after := #[], guard := none }, { dst := some 19, op := Op.load 30 (Operand.tmp 6), type := 30, pos := "law.go:30", after := #[], guard := none }, { dst := some 20, op := Op.call { callee := Callee.value (Operand.func 41), args := #[Operand.tmp 18, Operand.tmp 19], argTypes := #[30, 30] }, type := 4, pos := "law.go:30", after := #[{ on := 0, ground := Ground.data }, { on := 1, ground := Ground.data }], guard := none }, { dst := some 21, op := Op.load 24 (Operand.tmp 2), type := 24, pos := "law.go:30", after := #[], guard := none }, { dst := some 22, op := Op.load 24 (Operand.tmp 3), type := 24, pos := "law.go:30", after := #[], guard := none }, { dst := some 23, op := Op.call { callee := Callee.value (Operand.func 42), args := #[Operand.tmp 21, Operand.tmp 22], argTypes := #[24, 24] }, type := 4, pos := "law.go:30", after := #[{ on := 3, ground := Ground.data }, { on := 4, ground := Ground.data }, { on := 2, ground := Ground.chain }], guard := none }, { dst := some 24, op := Op.binOp BinOp.eql 4 (Operand.tmp 20) (Operand.tmp 23) 4, type := 4, pos := "law.go:30", after := #[{ on := 2, ground := Ground.data }, { on := 5, ground := Ground.data }], guard := none }, { dst := some 25, op := Op.move (Operand.tmp 24), type := 4, pos := "law.go:30", after := #[{ on := 6, ground := Ground.data }, { on := 5, ground := Ground.chain }], guard := none }, { dst := some 26, op := Op.load 30 (Operand.tmp 5), type := 30, pos := "law.go:30", after := #[{ on := 7, ground := Ground.guard }], guard := some (7, true) }, { dst := some 27, op := Op.load 30 (Operand.tmp 6), type := 30, pos := "law.go:30", after := #[{ on := 7, ground := Ground.guard }], guard := some (7, true) }, { dst := some 28, op := Op.call { callee := Callee.value (Operand.func 43), args := #[Operand.tmp 26, Operand.tmp 27], argTypes := #[30, 30] }, type := 3, pos := "law.go:30", after := #[{ on := 8, ground := Ground.data }, { on := 9, ground := Ground.data }, { on := 7, ground := Ground.chain }, { on := 7, ground := Ground.guard }], guard := some (7, true) }, { dst := some 29, op := Op.load 24 (Operand.tmp 2), type := 24, pos := "law.go:30", after := #[{ on := 7, ground := Ground.guard }], guard := some (7, true) }, { dst := some 30, op := Op.load 24 (Operand.tmp 3), type := 24, pos := "law.go:30", after := #[{ on := 7, ground := Ground.guard }], guard := some (7, true) }, { dst := some 31, op := Op.call { callee := Callee.value (Operand.func 44), args := #[Operand.tmp 29, Operand.tmp 30], argTypes := #[24, 24] }, type := 3, pos := "law.go:30", after := #[{ on := 11, ground := Ground.data }, { on := 12, ground := Ground.data }, { on := 10, ground := Ground.chain }, { on := 7, ground := Ground.guard }], guard := some (7, true) }, { dst := some 32, op := Op.binOp BinOp.eql 3 (Operand.tmp 28) (Operand.tmp 31) 3, type := 4, pos := "law.go:30", after := #[{ on := 10, ground := Ground.data }, { on := 13, ground := Ground.data }, { on := 7, ground := Ground.guard }], guard := some (7, true) }, { dst := some 33, op := Op.pick (Operand.tmp 25) (Operand.tmp 32) (Operand.const (Value.bool false)), type := 4, pos := "law.go:30", after := #[{ on := 7, ground := Ground.data }, { on := 14, ground := Ground.data }], guard := none }, { dst := some 34, op := Op.move (Operand.tmp 33), type := 4, pos := "law.go:30", after := #[{ on := 15, ground := Ground.data }, { on := 13, ground := Ground.chain }], guard := none }, { dst := some 35, op := Op.load 30 (Operand.tmp 5), type := 30, pos := "law.go:30", after := #[{ on := 16, ground := Ground.guard }], guard := some (16, true) }, { dst := some 36, op := Op.load 30 (Operand.tmp 6), type := 30, pos := "law.go:30", after := #[{ on := 16, ground := Ground.guard }], guard := some (16, true) }, { dst := some 37, op := Op.call { callee := Callee.value (Operand.func 45), args := #[Operand.tmp 35, Operand.tmp 36], argTypes := #[30, 30] }, type := 4, pos := "law.go:30", after := #[{ on := 17, ground := Ground.data }, { on := 18, ground := Ground.data }, { on := 16, ground := Ground.chain }, { on := 16, ground := Ground.guard }], guard := some (16, true) }, { dst := some 38, op := Op.load 24 (Operand.tmp 2), type := 24, pos := "law.go:30", after := #[{ on := 16, ground := Ground.guard }], guard := some (16, true) }, { dst := some 39, op := Op.load 24 (Operand.tmp 3), type := 24, pos := "law.go:30", after := #[{ on := 16, ground := Ground.guard }], guard := some (16, true) }, { dst := some 40, op := Op.call { callee := Callee.value (Operand.func 46), args := #[Operand.tmp 38, Operand.tmp 39], argTypes := #[24, 24] }, type := 4, pos := "law.go:30", after := #[{ on := 20, ground := Ground.data }, { on := 21, ground := Ground.data }, { on := 19, ground := Ground.chain }, { on := 16, ground := Ground.guard }], guard := some (16, true) }, { dst := some 41, op := Op.binOp BinOp.eql 4 (Operand.tmp 37) (Operand.tmp 40) 4, type := 4, pos := "law.go:30", after := #[{ on := 19, ground := Ground.data }, { on := 22, ground := Ground.data }, { on := 16, ground := Ground.guard }], guard := some (16, true) }, { dst := some 42, op := Op.pick (Operand.tmp 34) (Operand.tmp 41) (Operand.const (Value.bool false)), type := 4, pos := "law.go:30", after := #[{ on := 16, ground := Ground.data }, { on := 23, ground := Ground.data }], guard := none }, { dst := some 4, op := Op.assign (Operand.tmp 42), type := 4, pos := "law.go:30", after := #[{ on := 24, ground := Ground.data }, { on := 22, ground := Ground.chain }, { on := 0, ground := Ground.phase }, { on := 1, ground := Ground.phase }, { on := 2, ground := Ground.phase }, { on := 3, ground := Ground.phase }, { on := 4, ground := Ground.phase }, { on := 5, ground := Ground.phase }, { on := 6, ground := Ground.phase }, { on := 7, ground := Ground.phase }, { on := 8, ground := Ground.phase }, { on := 9, ground := Ground.phase }, { on := 10, ground := Ground.phase }, { on := 11, ground := Ground.phase }, { on := 12, ground := Ground.phase }, { on := 13, ground := Ground.phase }, { on := 14, ground := Ground.phase }, { on := 15, ground := Ground.phase }, { on := 16, ground := Ground.phase }, { on := 17, ground := Ground.phase }, { on := 18, ground := Ground.phase }, { on := 19, ground := Ground.phase }, { on := 20, ground := Ground.phase }, { on := 21, ground := Ground.phase }, { on := 22, ground := Ground.phase }, { on := 23, ground := Ground.phase }, { on := 24, ground := Ground.phase }], guard := none }] a.tmps.size = true)
    (hT5 : a.tmps.getD 5 undef = .pointer (some ⟨ga, 0, none⟩)) (hX5 : w.heap[ga]? = some (.cells #[xf, xl] 30 (0, 0)))
    (hT6 : a.tmps.getD 6 undef = .pointer (some ⟨gb, 0, none⟩)) (hX6 : w.heap[gb]? = some (.cells #[yf, yl] 30 (0, 0)))
    (hT2 : a.tmps.getD 2 undef = .pointer (some ⟨gc, 0, none⟩)) (hX2 : w.heap[gc]? = some (.cells #[af, al] 24 (0, 0)))
    (hT3 : a.tmps.getD 3 undef = .pointer (some ⟨gd, 0, none⟩)) (hX3 : w.heap[gd]? = some (.cells #[bf, bl] 24 (0, 0)))
    (hF2 : ∀ w1, Below w.heap.size w w1 → Calls Try.prog 41 #[.agg #[xf, xl], .agg #[yf, yl]] w1 fun e w2 => e = .returned (.bool s) ∧ Below w1.heap.size w1 w2)
    (hF5 : ∀ w1, Below w.heap.size w w1 → Calls Try.prog 42 #[.agg #[af, al], .agg #[bf, bl]] w1 fun e w2 => e = .returned (.bool s) ∧ Below w1.heap.size w1 w2)
    (hF10 : ∀ w1, Below w.heap.size w w1 → Calls Try.prog 43 #[.agg #[xf, xl], .agg #[yf, yl]] w1 fun e w2 => e = .returned (.int .i64 k) ∧ Below w1.heap.size w1 w2)
    (hF13 : ∀ w1, Below w.heap.size w w1 → Calls Try.prog 44 #[.agg #[af, al], .agg #[bf, bl]] w1 fun e w2 => e = .returned (.int .i64 k) ∧ Below w1.heap.size w1 w2)
    (hF19 : ∀ w1, Below w.heap.size w w1 → Calls Try.prog 45 #[.agg #[xf, xl], .agg #[yf, yl]] w1 fun e w2 => e = .returned (.bool c) ∧ Below w1.heap.size w1 w2)
    (hF22 : ∀ w1, Below w.heap.size w w1 → Calls Try.prog 46 #[.agg #[af, al], .agg #[bf, bl]] w1 fun e w2 => e = .returned (.bool c) ∧ Below w1.heap.size w1 w2)
    (hK : ∀ v w', Below w.heap.size w w' → v 25 = .bool true → Q .normal { tmps := layL [some 18, some 19, some 20, some 21, some 22, some 23, some 24, some 25, some 26, some 27, some 28, some 29, some 30, some 31, some 32, some 33, some 34, some 35, some 36, some 37, some 38, some 39, some 40, some 41, some 42, some 4] 0 v a.tmps, defers := a.defers } w') :
    (Code.region id #[{ dst := some 18, op := Op.load 30 (Operand.tmp 5), type := 30, pos := "law.go:30", after := #[], guard := none }, { dst := some 19, op := Op.load 30 (Operand.tmp 6), type := 30, pos := "law.go:30", after := #[], guard := none }, { dst := some 20, op := Op.call { callee := Callee.value (Operand.func 41), args := #[Operand.tmp 18, Operand.tmp 19], argTypes := #[30, 30] }, type := 4, pos := "law.go:30", after := #[{ on := 0, ground := Ground.data }, { on := 1, ground := Ground.data }], guard := none }, { dst := some 21, op := Op.load 24 (Operand.tmp 2), type := 24, pos := "law.go:30", after := #[], guard := none }, { dst := some 22, op := Op.load 24 (Operand.tmp 3), type := 24, pos := "law.go:30", after := #[], guard := none }, { dst := some 23, op := Op.call { callee := Callee.value (Operand.func 42), args := #[Operand.tmp 21, Operand.tmp 22], argTypes := #[24, 24] }, type := 4, pos := "law.go:30", after := #[{ on := 3, ground := Ground.data }, { on := 4, ground := Ground.data }, { on := 2, ground := Ground.chain }], guard := none }, { dst := some 24, op := Op.binOp BinOp.eql 4 (Operand.tmp 20) (Operand.tmp 23) 4, type := 4, pos := "law.go:30", after := #[{ on := 2, ground := Ground.data }, { on := 5, ground := Ground.data }], guard := none }, { dst := some 25, op := Op.move (Operand.tmp 24), type := 4, pos := "law.go:30", after := #[{ on := 6, ground := Ground.data }, { on := 5, ground := Ground.chain }], guard := none }, { dst := some 26, op := Op.load 30 (Operand.tmp 5), type := 30, pos := "law.go:30", after := #[{ on := 7, ground := Ground.guard }], guard := some (7, true) }, { dst := some 27, op := Op.load 30 (Operand.tmp 6), type := 30, pos := "law.go:30", after := #[{ on := 7, ground := Ground.guard }], guard := some (7, true) }, { dst := some 28, op := Op.call { callee := Callee.value (Operand.func 43), args := #[Operand.tmp 26, Operand.tmp 27], argTypes := #[30, 30] }, type := 3, pos := "law.go:30", after := #[{ on := 8, ground := Ground.data }, { on := 9, ground := Ground.data }, { on := 7, ground := Ground.chain }, { on := 7, ground := Ground.guard }], guard := some (7, true) }, { dst := some 29, op := Op.load 24 (Operand.tmp 2), type := 24, pos := "law.go:30", after := #[{ on := 7, ground := Ground.guard }], guard := some (7, true) }, { dst := some 30, op := Op.load 24 (Operand.tmp 3), type := 24, pos := "law.go:30", after := #[{ on := 7, ground := Ground.guard }], guard := some (7, true) }, { dst := some 31, op := Op.call { callee := Callee.value (Operand.func 44), args := #[Operand.tmp 29, Operand.tmp 30], argTypes := #[24, 24] }, type := 3, pos := "law.go:30", after := #[{ on := 11, ground := Ground.data }, { on := 12, ground := Ground.data }, { on := 10, ground := Ground.chain }, { on := 7, ground := Ground.guard }], guard := some (7, true) }, { dst := some 32, op := Op.binOp BinOp.eql 3 (Operand.tmp 28) (Operand.tmp 31) 3, type := 4, pos := "law.go:30", after := #[{ on := 10, ground := Ground.data }, { on := 13, ground := Ground.data }, { on := 7, ground := Ground.guard }], guard := some (7, true) }, { dst := some 33, op := Op.pick (Operand.tmp 25) (Operand.tmp 32) (Operand.const (Value.bool false)), type := 4, pos := "law.go:30", after := #[{ on := 7, ground := Ground.data }, { on := 14, ground := Ground.data }], guard := none }, { dst := some 34, op := Op.move (Operand.tmp 33), type := 4, pos := "law.go:30", after := #[{ on := 15, ground := Ground.data }, { on := 13, ground := Ground.chain }], guard := none }, { dst := some 35, op := Op.load 30 (Operand.tmp 5), type := 30, pos := "law.go:30", after := #[{ on := 16, ground := Ground.guard }], guard := some (16, true) }, { dst := some 36, op := Op.load 30 (Operand.tmp 6), type := 30, pos := "law.go:30", after := #[{ on := 16, ground := Ground.guard }], guard := some (16, true) }, { dst := some 37, op := Op.call { callee := Callee.value (Operand.func 45), args := #[Operand.tmp 35, Operand.tmp 36], argTypes := #[30, 30] }, type := 4, pos := "law.go:30", after := #[{ on := 17, ground := Ground.data }, { on := 18, ground := Ground.data }, { on := 16, ground := Ground.chain }, { on := 16, ground := Ground.guard }], guard := some (16, true) }, { dst := some 38, op := Op.load 24 (Operand.tmp 2), type := 24, pos := "law.go:30", after := #[{ on := 16, ground := Ground.guard }], guard := some (16, true) }, { dst := some 39, op := Op.load 24 (Operand.tmp 3), type := 24, pos := "law.go:30", after := #[{ on := 16, ground := Ground.guard }], guard := some (16, true) }, { dst := some 40, op := Op.call { callee := Callee.value (Operand.func 46), args := #[Operand.tmp 38, Operand.tmp 39], argTypes := #[24, 24] }, type := 4, pos := "law.go:30", after := #[{ on := 20, ground := Ground.data }, { on := 21, ground := Ground.data }, { on := 19, ground := Ground.chain }, { on := 16, ground := Ground.guard }], guard := some (16, true) }, { dst := some 41, op := Op.binOp BinOp.eql 4 (Operand.tmp 37) (Operand.tmp 40) 4, type := 4, pos := "law.go:30", after := #[{ on := 19, ground := Ground.data }, { on := 22, ground := Ground.data }, { on := 16, ground := Ground.guard }], guard := some (16, true) }, { dst := some 42, op := Op.pick (Operand.tmp 34) (Operand.tmp 41) (Operand.const (Value.bool false)), type := 4, pos := "law.go:30", after := #[{ on := 16, ground := Ground.data }, { on := 23, ground := Ground.data }], guard := none }, { dst := some 4, op := Op.assign (Operand.tmp 42), type := 4, pos := "law.go:30", after := #[{ on := 24, ground := Ground.data }, { on := 22, ground := Ground.chain }, { on := 0, ground := Ground.phase }, { on := 1, ground := Ground.phase }, { on := 2, ground := Ground.phase }, { on := 3, ground := Ground.phase }, { on := 4, ground := Ground.phase }, { on := 5, ground := Ground.phase }, { on := 6, ground := Ground.phase }, { on := 7, ground := Ground.phase }, { on := 8, ground := Ground.phase }, { on := 9, ground := Ground.phase }, { on := 10, ground := Ground.phase }, { on := 11, ground := Ground.phase }, { on := 12, ground := Ground.phase }, { on := 13, ground := Ground.phase }, { on := 14, ground := Ground.phase }, { on := 15, ground := Ground.phase }, { on := 16, ground := Ground.phase }, { on := 17, ground := Ground.phase }, { on := 18, ground := Ground.phase }, { on := 19, ground := Ground.phase }, { on := 20, ground := Ground.phase }, { on := 21, ground := Ground.phase }, { on := 22, ground := Ground.phase }, { on := 23, ground := Ground.phase }, { on := 24, ground := Ground.phase }], guard := none }] true).wp Try.prog Q a w := by
  have hmx : Try.prog.follows .mixedOrders = true := by kernel_rfl
  refine region_detR 26 hmx hr (by kernel_rfl) ?_
  refine DetR.is (o := { dst := some 18, op := Op.load 30 (Operand.tmp 5), type := 30, pos := "law.go:30", after := #[], guard := none }) (u := ?ux1) rfl (by decide) (fun T w' hb hd hB K hK => ?sx1) ?rx1
  case sx1 =>
    have e5 := (hB 5 (by kernel_rfl)).trans hT5
    have q5_0 : w'.cell? ⟨ga, 0, none⟩ = some (xf) := (blk_cell (blk_below hX5 hb) 0).trans rfl
    have q5_1 : w'.cell? ⟨ga, 1, none⟩ = some (xl) := (blk_cell (blk_below hX5 hb) 1).trans rfl
    rw [if_pos (wanted_none _ rfl)]
    clear hd hB
    go_simp
    exact hK _ (Below.refl _ _)
  refine DetR.is (o := { dst := some 19, op := Op.load 30 (Operand.tmp 6), type := 30, pos := "law.go:30", after := #[], guard := none }) (u := ?ux2) rfl (by decide) (fun T w' hb hd hB K hK => ?sx2) ?rx2
  case sx2 =>
    have e6 := (hB 6 (by kernel_rfl)).trans hT6
    have q6_0 : w'.cell? ⟨gb, 0, none⟩ = some (yf) := (blk_cell (blk_below hX6 hb) 0).trans rfl
    have q6_1 : w'.cell? ⟨gb, 1, none⟩ = some (yl) := (blk_cell (blk_below hX6 hb) 1).trans rfl
    rw [if_pos (wanted_none _ rfl)]
    clear hd hB
    go_simp
    exact hK _ (Below.refl _ _)
  refine DetR.is (o := { dst := some 20, op := Op.call { callee := Callee.value (Operand.func 41), args := #[Operand.tmp 18, Operand.tmp 19], argTypes := #[30, 30] }, type := 4, pos := "law.go:30", after := #[{ on := 0, ground := Ground.data }, { on := 1, ground := Ground.data }], guard := none }) (u := ?ux3) rfl (by decide) (fun T w' hb hd hB K hK => ?sx3) ?rx3
  case sx3 =>
    have e18 := hd 0 18 _ (by decide) (by kernel_rfl) rfl rfl
    replace e18 : T.getD 18 undef = _ := e18
    have e19 := hd 1 19 _ (by decide) (by kernel_rfl) rfl rfl
    replace e19 : T.getD 19 undef = _ := e19
    rw [if_pos (wanted_none _ rfl)]
    have hcl := hF2 w' hb
    clear hd hB
    go_simp
    go_at_call 41
    refine hcl.mono ?_
    rintro e w2 ⟨rfl, h2⟩
    exact hK _ h2
  refine DetR.is (o := { dst := some 21, op := Op.load 24 (Operand.tmp 2), type := 24, pos := "law.go:30", after := #[], guard := none }) (u := ?ux4) rfl (by decide) (fun T w' hb hd hB K hK => ?sx4) ?rx4
  case sx4 =>
    have e2 := (hB 2 (by kernel_rfl)).trans hT2
    have q2_0 : w'.cell? ⟨gc, 0, none⟩ = some (af) := (blk_cell (blk_below hX2 hb) 0).trans rfl
    have q2_1 : w'.cell? ⟨gc, 1, none⟩ = some (al) := (blk_cell (blk_below hX2 hb) 1).trans rfl
    rw [if_pos (wanted_none _ rfl)]
    clear hd hB
    go_simp
    exact hK _ (Below.refl _ _)
  refine DetR.is (o := { dst := some 22, op := Op.load 24 (Operand.tmp 3), type := 24, pos := "law.go:30", after := #[], guard := none }) (u := ?ux5) rfl (by decide) (fun T w' hb hd hB K hK => ?sx5) ?rx5
  case sx5 =>
    have e3 := (hB 3 (by kernel_rfl)).trans hT3
    have q3_0 : w'.cell? ⟨gd, 0, none⟩ = some (bf) := (blk_cell (blk_below hX3 hb) 0).trans rfl
    have q3_1 : w'.cell? ⟨gd, 1, none⟩ = some (bl) := (blk_cell (blk_below hX3 hb) 1).trans rfl
    rw [if_pos (wanted_none _ rfl)]
    clear hd hB
    go_simp
    exact hK _ (Below.refl _ _)
  refine DetR.is (o := { dst := some 23, op := Op.call { callee := Callee.value (Operand.func 42), args := #[Operand.tmp 21, Operand.tmp 22], argTypes := #[24, 24] }, type := 4, pos := "law.go:30", after := #[{ on := 3, ground := Ground.data }, { on := 4, ground := Ground.data }, { on := 2, ground := Ground.chain }], guard := none }) (u := ?ux6) rfl (by decide) (fun T w' hb hd hB K hK => ?sx6) ?rx6
  case sx6 =>
    have e21 := hd 3 21 _ (by decide) (by kernel_rfl) rfl rfl
    replace e21 : T.getD 21 undef = _ := e21
    have e22 := hd 4 22 _ (by decide) (by kernel_rfl) rfl rfl
    replace e22 : T.getD 22 undef = _ := e22
    rw [if_pos (wanted_none _ rfl)]
    have hcl := hF5 w' hb
    clear hd hB
    go_simp
    go_at_call 42
    refine hcl.mono ?_
    rintro e w2 ⟨rfl, h2⟩
    exact hK _ h2
  refine DetR.is (o := { dst := some 24, op := Op.binOp BinOp.eql 4 (Operand.tmp 20) (Operand.tmp 23) 4, type := 4, pos := "law.go:30", after := #[{ on := 2, ground := Ground.data }, { on := 5, ground := Ground.data }], guard := none }) (u := .bool true) rfl (by decide) (fun T w' hb hd hB K hK => ?sx7) ?rx7
  case sx7 =>
    have e20 := hd 2 20 _ (by decide) (by kernel_rfl) rfl rfl
    replace e20 : T.getD 20 undef = _ := e20
    have e23 := hd 5 23 _ (by decide) (by kernel_rfl) rfl rfl
    replace e23 : T.getD 23 undef = _ := e23
    rw [if_pos (wanted_none _ rfl)]
    clear hd hB
    go_simp
    try simp only [beq_self_eq_true]
    exact hK _ (Below.refl _ _)
  refine DetR.is (o := { dst := some 25, op := Op.move (Operand.tmp 24), type := 4, pos := "law.go:30", after := #[{ on := 6, ground := Ground.data }, { on := 5, ground := Ground.chain }], guard := none }) (u := .bool true) rfl (by decide) (fun T w' hb hd hB K hK => ?sx8) ?rx8
  case sx8 =>
    have e24 := hd 6 24 _ (by decide) (by kernel_rfl) rfl rfl
    replace e24 : T.getD 24 undef = _ := e24
    rw [if_pos (wanted_none _ rfl)]
    clear hd hB
    go_simp
    exact hK _ (Below.refl _ _)
  refine DetR.is (o := { dst := some 26, op := Op.load 30 (Operand.tmp 5), type := 30, pos := "law.go:30", after := #[{ on := 7, ground := Ground.guard }], guard := some (7, true) }) (u := ?ux9) rfl (by decide) (fun T w' hb hd hB K hK => ?sx9) ?rx9
  case sx9 =>
    have e5 := (hB 5 (by kernel_rfl)).trans hT5
    have q5_0 : w'.cell? ⟨ga, 0, none⟩ = some (xf) := (blk_cell (blk_below hX5 hb) 0).trans rfl
    have q5_1 : w'.cell? ⟨ga, 1, none⟩ = some (xl) := (blk_cell (blk_below hX5 hb) 1).trans rfl
    have eg := hd 7 25 _ (by decide) (by kernel_rfl) rfl rfl
    replace eg : T.getD 25 undef = .bool true := eg
    rw [if_pos (wanted_yes 7 25 true rfl rfl eg)]
    clear eg
    clear hd hB
    go_simp
    exact hK _ (Below.refl _ _)
  refine DetR.is (o := { dst := some 27, op := Op.load 30 (Operand.tmp 6), type := 30, pos := "law.go:30", after := #[{ on := 7, ground := Ground.guard }], guard := some (7, true) }) (u := ?ux10) rfl (by decide) (fun T w' hb hd hB K hK => ?sx10) ?rx10
  case sx10 =>
    have e6 := (hB 6 (by kernel_rfl)).trans hT6
    have q6_0 : w'.cell? ⟨gb, 0, none⟩ = some (yf) := (blk_cell (blk_below hX6 hb) 0).trans rfl
    have q6_1 : w'.cell? ⟨gb, 1, none⟩ = some (yl) := (blk_cell (blk_below hX6 hb) 1).trans rfl
    have eg := hd 7 25 _ (by decide) (by kernel_rfl) rfl rfl
    replace eg : T.getD 25 undef = .bool true := eg
    rw [if_pos (wanted_yes 7 25 true rfl rfl eg)]
    clear eg
    clear hd hB
    go_simp
    exact hK _ (Below.refl _ _)
  refine DetR.is (o := { dst := some 28, op := Op.call { callee := Callee.value (Operand.func 43), args := #[Operand.tmp 26, Operand.tmp 27], argTypes := #[30, 30] }, type := 3, pos := "law.go:30", after := #[{ on := 8, ground := Ground.data }, { on := 9, ground := Ground.data }, { on := 7, ground := Ground.chain }, { on := 7, ground := Ground.guard }], guard := some (7, true) }) (u := ?ux11) rfl (by decide) (fun T w' hb hd hB K hK => ?sx11) ?rx11
  case sx11 =>
    have e26 := hd 8 26 _ (by decide) (by kernel_rfl) rfl rfl
    replace e26 : T.getD 26 undef = _ := e26
    have e27 := hd 9 27 _ (by decide) (by kernel_rfl) rfl rfl
    replace e27 : T.getD 27 undef = _ := e27
    have eg := hd 7 25 _ (by decide) (by kernel_rfl) rfl rfl
    replace eg : T.getD 25 undef = .bool true := eg
    rw [if_pos (wanted_yes 7 25 true rfl rfl eg)]
    clear eg
    have hcl := hF10 w' hb
    clear hd hB
    go_simp
    go_at_call 43
    refine hcl.mono ?_
    rintro e w2 ⟨rfl, h2⟩
    exact hK _ h2
  refine DetR.is (o := { dst := some 29, op := Op.load 24 (Operand.tmp 2), type := 24, pos := "law.go:30", after := #[{ on := 7, ground := Ground.guard }], guard := some (7, true) }) (u := ?ux12) rfl (by decide) (fun T w' hb hd hB K hK => ?sx12) ?rx12
  case sx12 =>
    have e2 := (hB 2 (by kernel_rfl)).trans hT2
    have q2_0 : w'.cell? ⟨gc, 0, none⟩ = some (af) := (blk_cell (blk_below hX2 hb) 0).trans rfl
    have q2_1 : w'.cell? ⟨gc, 1, none⟩ = some (al) := (blk_cell (blk_below hX2 hb) 1).trans rfl
    have eg := hd 7 25 _ (by decide) (by kernel_rfl) rfl rfl
    replace eg : T.getD 25 undef = .bool true := eg
    rw [if_pos (wanted_yes 7 25 true rfl rfl eg)]
    clear eg
    clear hd hB
    go_simp
    exact hK _ (Below.refl _ _)
  refine DetR.is (o := { dst := some 30, op := Op.load 24 (Operand.tmp 3), type := 24, pos := "law.go:30", after := #[{ on := 7, ground := Ground.guard }], guard := some (7, true) }) (u := ?ux13) rfl (by decide) (fun T w' hb hd hB K hK => ?sx13) ?rx13
  case sx13 =>
    have e3 := (hB 3 (by kernel_rfl)).trans hT3
    have q3_0 : w'.cell? ⟨gd, 0, none⟩ = some (bf) := (blk_cell (blk_below hX3 hb) 0).trans rfl
    have q3_1 : w'.cell? ⟨gd, 1, none⟩ = some (bl) := (blk_cell (blk_below hX3 hb) 1).trans rfl
    have eg := hd 7 25 _ (by decide) (by kernel_rfl) rfl rfl
    replace eg : T.getD 25 undef = .bool true := eg
    rw [if_pos (wanted_yes 7 25 true rfl rfl eg)]
    clear eg
    clear hd hB
    go_simp
    exact hK _ (Below.refl _ _)
  refine DetR.is (o := { dst := some 31, op := Op.call { callee := Callee.value (Operand.func 44), args := #[Operand.tmp 29, Operand.tmp 30], argTypes := #[24, 24] }, type := 3, pos := "law.go:30", after := #[{ on := 11, ground := Ground.data }, { on := 12, ground := Ground.data }, { on := 10, ground := Ground.chain }, { on := 7, ground := Ground.guard }], guard := some (7, true) }) (u := ?ux14) rfl (by decide) (fun T w' hb hd hB K hK => ?sx14) ?rx14
  case sx14 =>
    have e29 := hd 11 29 _ (by decide) (by kernel_rfl) rfl rfl
    replace e29 : T.getD 29 undef = _ := e29
    have e30 := hd 12 30 _ (by decide) (by kernel_rfl) rfl rfl
    replace e30 : T.getD 30 undef = _ := e30
    have eg := hd 7 25 _ (by decide) (by kernel_rfl) rfl rfl
    replace eg : T.getD 25 undef = .bool true := eg
    rw [if_pos (wanted_yes 7 25 true rfl rfl eg)]
    clear eg
    have hcl := hF13 w' hb
    clear hd hB
    go_simp
    go_at_call 44
    refine hcl.mono ?_
    rintro e w2 ⟨rfl, h2⟩
    exact hK _ h2
  refine DetR.is (o := { dst := some 32, op := Op.binOp BinOp.eql 3 (Operand.tmp 28) (Operand.tmp 31) 3, type := 4, pos := "law.go:30", after := #[{ on := 10, ground := Ground.data }, { on := 13, ground := Ground.data }, { on := 7, ground := Ground.guard }], guard := some (7, true) }) (u := .bool true) rfl (by decide) (fun T w' hb hd hB K hK => ?sx15) ?rx15
  case sx15 =>
    have e28 := hd 10 28 _ (by decide) (by kernel_rfl) rfl rfl
    replace e28 : T.getD 28 undef = _ := e28
    have e31 := hd 13 31 _ (by decide) (by kernel_rfl) rfl rfl
    replace e31 : T.getD 31 undef = _ := e31
    have eg := hd 7 25 _ (by decide) (by kernel_rfl) rfl rfl
    replace eg : T.getD 25 undef = .bool true := eg
    rw [if_pos (wanted_yes 7 25 true rfl rfl eg)]
    clear eg
    clear hd hB
    go_simp
    try simp only [beq_self_eq_true]
    exact hK _ (Below.refl _ _)
  refine DetR.is (o := { dst := some 33, op := Op.pick (Operand.tmp 25) (Operand.tmp 32) (Operand.const (Value.bool false)), type := 4, pos := "law.go:30", after := #[{ on := 7, ground := Ground.data }, { on := 14, ground := Ground.data }], guard := none }) (u := .bool true) rfl (by decide) (fun T w' hb hd hB K hK => ?sx16) ?rx16
  case sx16 =>
    have e25 := hd 7 25 _ (by decide) (by kernel_rfl) rfl rfl
    replace e25 : T.getD 25 undef = _ := e25
    have e32 := hd 14 32 _ (by decide) (by kernel_rfl) rfl rfl
    replace e32 : T.getD 32 undef = _ := e32
    rw [if_pos (wanted_none _ rfl)]
    clear hd hB
    go_simp
    exact hK _ (Below.refl _ _)
  refine DetR.is (o := { dst := some 34, op := Op.move (Operand.tmp 33), type := 4, pos := "law.go:30", after := #[{ on := 15, ground := Ground.data }, { on := 13, ground := Ground.chain }], guard := none }) (u := .bool true) rfl (by decide) (fun T w' hb hd hB K hK => ?sx17) ?rx17
  case sx17 =>
    have e33 := hd 15 33 _ (by decide) (by kernel_rfl) rfl rfl
    replace e33 : T.getD 33 undef = _ := e33
    rw [if_pos (wanted_none _ rfl)]
    clear hd hB
    go_simp
    exact hK _ (Below.refl _ _)
  refine DetR.is (o := { dst := some 35, op := Op.load 30 (Operand.tmp 5), type := 30, pos := "law.go:30", after := #[{ on := 16, ground := Ground.guard }], guard := some (16, true) }) (u := ?ux18) rfl (by decide) (fun T w' hb hd hB K hK => ?sx18) ?rx18
  case sx18 =>
    have e5 := (hB 5 (by kernel_rfl)).trans hT5
    have q5_0 : w'.cell? ⟨ga, 0, none⟩ = some (xf) := (blk_cell (blk_below hX5 hb) 0).trans rfl
    have q5_1 : w'.cell? ⟨ga, 1, none⟩ = some (xl) := (blk_cell (blk_below hX5 hb) 1).trans rfl
    have eg := hd 16 34 _ (by decide) (by kernel_rfl) rfl rfl
    replace eg : T.getD 34 undef = .bool true := eg
    rw [if_pos (wanted_yes 16 34 true rfl rfl eg)]
    clear eg
    clear hd hB
    go_simp
    exact hK _ (Below.refl _ _)
  refine DetR.is (o := { dst := some 36, op := Op.load 30 (Operand.tmp 6), type := 30, pos := "law.go:30", after := #[{ on := 16, ground := Ground.guard }], guard := some (16, true) }) (u := ?ux19) rfl (by decide) (fun T w' hb hd hB K hK => ?sx19) ?rx19
  case sx19 =>
    have e6 := (hB 6 (by kernel_rfl)).trans hT6
    have q6_0 : w'.cell? ⟨gb, 0, none⟩ = some (yf) := (blk_cell (blk_below hX6 hb) 0).trans rfl
    have q6_1 : w'.cell? ⟨gb, 1, none⟩ = some (yl) := (blk_cell (blk_below hX6 hb) 1).trans rfl
    have eg := hd 16 34 _ (by decide) (by kernel_rfl) rfl rfl
    replace eg : T.getD 34 undef = .bool true := eg
    rw [if_pos (wanted_yes 16 34 true rfl rfl eg)]
    clear eg
    clear hd hB
    go_simp
    exact hK _ (Below.refl _ _)
  refine DetR.is (o := { dst := some 37, op := Op.call { callee := Callee.value (Operand.func 45), args := #[Operand.tmp 35, Operand.tmp 36], argTypes := #[30, 30] }, type := 4, pos := "law.go:30", after := #[{ on := 17, ground := Ground.data }, { on := 18, ground := Ground.data }, { on := 16, ground := Ground.chain }, { on := 16, ground := Ground.guard }], guard := some (16, true) }) (u := ?ux20) rfl (by decide) (fun T w' hb hd hB K hK => ?sx20) ?rx20
  case sx20 =>
    have e35 := hd 17 35 _ (by decide) (by kernel_rfl) rfl rfl
    replace e35 : T.getD 35 undef = _ := e35
    have e36 := hd 18 36 _ (by decide) (by kernel_rfl) rfl rfl
    replace e36 : T.getD 36 undef = _ := e36
    have eg := hd 16 34 _ (by decide) (by kernel_rfl) rfl rfl
    replace eg : T.getD 34 undef = .bool true := eg
    rw [if_pos (wanted_yes 16 34 true rfl rfl eg)]
    clear eg
    have hcl := hF19 w' hb
    clear hd hB
    go_simp
    go_at_call 45
    refine hcl.mono ?_
    rintro e w2 ⟨rfl, h2⟩
    exact hK _ h2
  refine DetR.is (o := { dst := some 38, op := Op.load 24 (Operand.tmp 2), type := 24, pos := "law.go:30", after := #[{ on := 16, ground := Ground.guard }], guard := some (16, true) }) (u := ?ux21) rfl (by decide) (fun T w' hb hd hB K hK => ?sx21) ?rx21
  case sx21 =>
    have e2 := (hB 2 (by kernel_rfl)).trans hT2
    have q2_0 : w'.cell? ⟨gc, 0, none⟩ = some (af) := (blk_cell (blk_below hX2 hb) 0).trans rfl
    have q2_1 : w'.cell? ⟨gc, 1, none⟩ = some (al) := (blk_cell (blk_below hX2 hb) 1).trans rfl
    have eg := hd 16 34 _ (by decide) (by kernel_rfl) rfl rfl
    replace eg : T.getD 34 undef = .bool true := eg
    rw [if_pos (wanted_yes 16 34 true rfl rfl eg)]
    clear eg
    clear hd hB
    go_simp
    exact hK _ (Below.refl _ _)
  refine DetR.is (o := { dst := some 39, op := Op.load 24 (Operand.tmp 3), type := 24, pos := "law.go:30", after := #[{ on := 16, ground := Ground.guard }], guard := some (16, true) }) (u := ?ux22) rfl (by decide) (fun T w' hb hd hB K hK => ?sx22) ?rx22
  case sx22 =>
    have e3 := (hB 3 (by kernel_rfl)).trans hT3
    have q3_0 : w'.cell? ⟨gd, 0, none⟩ = some (bf) := (blk_cell (blk_below hX3 hb) 0).trans rfl
    have q3_1 : w'.cell? ⟨gd, 1, none⟩ = some (bl) := (blk_cell (blk_below hX3 hb) 1).trans rfl
    have eg := hd 16 34 _ (by decide) (by kernel_rfl) rfl rfl
    replace eg : T.getD 34 undef = .bool true := eg
    rw [if_pos (wanted_yes 16 34 true rfl rfl eg)]
    clear eg
    clear hd hB
    go_simp
    exact hK _ (Below.refl _ _)
  refine DetR.is (o := { dst := some 40, op := Op.call { callee := Callee.value (Operand.func 46), args := #[Operand.tmp 38, Operand.tmp 39], argTypes := #[24, 24] }, type := 4, pos := "law.go:30", after := #[{ on := 20, ground := Ground.data }, { on := 21, ground := Ground.data }, { on := 19, ground := Ground.chain }, { on := 16, ground := Ground.guard }], guard := some (16, true) }) (u := ?ux23) rfl (by decide) (fun T w' hb hd hB K hK => ?sx23) ?rx23
  case sx23 =>
    have e38 := hd 20 38 _ (by decide) (by kernel_rfl) rfl rfl
    replace e38 : T.getD 38 undef = _ := e38
    have e39 := hd 21 39 _ (by decide) (by kernel_rfl) rfl rfl
    replace e39 : T.getD 39 undef = _ := e39
    have eg := hd 16 34 _ (by decide) (by kernel_rfl) rfl rfl
    replace eg : T.getD 34 undef = .bool true := eg
    rw [if_pos (wanted_yes 16 34 true rfl rfl eg)]
    clear eg
    have hcl := hF22 w' hb
    clear hd hB
    go_simp
    go_at_call 46
    refine hcl.mono ?_
    rintro e w2 ⟨rfl, h2⟩
    exact hK _ h2
  refine DetR.is (o := { dst := some 41, op := Op.binOp BinOp.eql 4 (Operand.tmp 37) (Operand.tmp 40) 4, type := 4, pos := "law.go:30", after := #[{ on := 19, ground := Ground.data }, { on := 22, ground := Ground.data }, { on := 16, ground := Ground.guard }], guard := some (16, true) }) (u := .bool true) rfl (by decide) (fun T w' hb hd hB K hK => ?sx24) ?rx24
  case sx24 =>
    have e37 := hd 19 37 _ (by decide) (by kernel_rfl) rfl rfl
    replace e37 : T.getD 37 undef = _ := e37
    have e40 := hd 22 40 _ (by decide) (by kernel_rfl) rfl rfl
    replace e40 : T.getD 40 undef = _ := e40
    have eg := hd 16 34 _ (by decide) (by kernel_rfl) rfl rfl
    replace eg : T.getD 34 undef = .bool true := eg
    rw [if_pos (wanted_yes 16 34 true rfl rfl eg)]
    clear eg
    clear hd hB
    go_simp
    try simp only [beq_self_eq_true]
    exact hK _ (Below.refl _ _)
  refine DetR.is (o := { dst := some 42, op := Op.pick (Operand.tmp 34) (Operand.tmp 41) (Operand.const (Value.bool false)), type := 4, pos := "law.go:30", after := #[{ on := 16, ground := Ground.data }, { on := 23, ground := Ground.data }], guard := none }) (u := .bool true) rfl (by decide) (fun T w' hb hd hB K hK => ?sx25) ?rx25
  case sx25 =>
    have e34 := hd 16 34 _ (by decide) (by kernel_rfl) rfl rfl
    replace e34 : T.getD 34 undef = _ := e34
    have e41 := hd 23 41 _ (by decide) (by kernel_rfl) rfl rfl
    replace e41 : T.getD 41 undef = _ := e41
    rw [if_pos (wanted_none _ rfl)]
    clear hd hB
    go_simp
    exact hK _ (Below.refl _ _)
  refine DetR.is (o := { dst := some 4, op := Op.assign (Operand.tmp 42), type := 4, pos := "law.go:30", after := #[{ on := 24, ground := Ground.data }, { on := 22, ground := Ground.chain }, { on := 0, ground := Ground.phase }, { on := 1, ground := Ground.phase }, { on := 2, ground := Ground.phase }, { on := 3, ground := Ground.phase }, { on := 4, ground := Ground.phase }, { on := 5, ground := Ground.phase }, { on := 6, ground := Ground.phase }, { on := 7, ground := Ground.phase }, { on := 8, ground := Ground.phase }, { on := 9, ground := Ground.phase }, { on := 10, ground := Ground.phase }, { on := 11, ground := Ground.phase }, { on := 12, ground := Ground.phase }, { on := 13, ground := Ground.phase }, { on := 14, ground := Ground.phase }, { on := 15, ground := Ground.phase }, { on := 16, ground := Ground.phase }, { on := 17, ground := Ground.phase }, { on := 18, ground := Ground.phase }, { on := 19, ground := Ground.phase }, { on := 20, ground := Ground.phase }, { on := 21, ground := Ground.phase }, { on := 22, ground := Ground.phase }, { on := 23, ground := Ground.phase }, { on := 24, ground := Ground.phase }], guard := none }) (u := .bool true) rfl (by decide) (fun T w' hb hd hB K hK => ?sx26) ?rx26
  case sx26 =>
    have e42 := hd 24 42 _ (by decide) (by kernel_rfl) rfl rfl
    replace e42 : T.getD 42 undef = _ := e42
    rw [if_pos (wanted_none _ rfl)]
    clear hd hB
    go_simp
    exact hK _ (Below.refl _ _)
  refine DetR.done [some 18, some 19, some 20, some 21, some 22, some 23, some 24, some 25, some 26, some 27, some 28, some 29, some 30, some 31, some 32, some 33, some 34, some 35, some 36, some 37, some 38, some 39, some 40, some 41, some 42, some 4] (by kernel_rfl) rfl (by kernel_rfl) ?_
  intro v w' hb hv
  exact hK v w' hb (hv 25 _ (by decide) rfl)
set_option maxHeartbeats 8000000 in
set_option maxRecDepth 100000 in
theorem KboTells_walk (a b : S24) (A : Option Addr) (c : Nat) (A' : Option Addr) (c' : Nat) (w : World)
    (hA : k24.C w A a.f1.length a.f1) (hc : a.f1.length ≤ c) (hA' : k24.C w A' b.f1.length b.f1) (hc' : b.f1.length ≤ c') :
    Calls Try.prog 8 #[.agg #[.int .i64 a.f0, .slice A a.f1.length c], .agg #[.int .i64 b.f0, .slice A' b.f1.length c']] w fun e w' => e = .returned (.bool true) ∧ Below w.heap.size w w' := by
  have hmx : Try.prog.follows .mixedOrders = true := by kernel_rfl
  obtain ⟨ok, hFine, hok⟩ := Fine_spec [a, b] (by simp)
  obtain ⟨kF, hF⟩ := hFine.rounds
  have hbA : Aside0 (∀ w1, Below w.heap.size w w1 → k24.C w1 A a.f1.length a.f1) := ⟨fun w1 h => Kd.C_below hA h⟩
  have hbB : Aside0 (∀ w1, Below w.heap.size w w1 → k24.C w1 A' b.f1.length b.f1) := ⟨fun w1 h => Kd.C_below hA' h⟩
  clear hA hA' hFine
  obtain ⟨kz, hal⟩ := alive10.rounds
  go_enter Try.func8, Try.ntmps8
  cases ok with
  | false =>
    go_wp2_with (first | (go_at_call 40; refine (soriteslaw10_alive.calls kz true _ hal).mono ?_; rintro e w1 ⟨rfl, hb1⟩; have hs1 := hb1.size; simp only [World.size_alloc] at hs1; have hB1 : Below w.heap.size w w1 := (below_alloc (below_alloc (Below.refl _ _) _) _).trans (hb1.mono (by simp; omega)); have hg0 : w1.heap[w.heap.size]? = some (.cells #[.int .i64 a.f0, .slice A a.f1.length c] 24 (0, 0)) := blk_below (blk_alloc (heap_alloc_new _ _) _) hb1; have hg1 : w1.heap[w.heap.size + 1]? = some (.cells #[.int .i64 b.f0, .slice A' b.f1.length c'] 24 (0, 0)) := blk_below (by have := heap_alloc_new (w.alloc (.cells #[.int .i64 a.f0, .slice A a.f1.length c] 24)) (.cells #[.int .i64 b.f0, .slice A' b.f1.length c'] 24); rw [World.size_alloc] at this; exact this) hb1; have hx0 : w1.cell? ⟨w.heap.size, 0, none⟩ = some (.int .i64 a.f0) := (blk_cell hg0 0).trans rfl; have hx1 : w1.cell? ⟨w.heap.size, 1, none⟩ = some (.slice A a.f1.length c) := (blk_cell hg0 1).trans rfl; have hy0 : w1.cell? ⟨w.heap.size + 1, 0, none⟩ = some (.int .i64 b.f0) := (blk_cell hg1 0).trans rfl; have hy1 : w1.cell? ⟨w.heap.size + 1, 1, none⟩ = some (.slice A' b.f1.length c') := (blk_cell hg1 1).trans rfl) | (go_at_call 21; refine (soriteslaw06_Fine.calls kF _ 2 [a, b] _ _ (C2 k24 rfl (K24 (hbA.out _ (below_alloc hB1 _)) hc) (K24 (hbB.out _ (below_alloc hB1 _)) hc') (heap_alloc_new _ _)) (by simp) hF).mono ?_; rintro e w2 ⟨rfl, hb2⟩; have hB2 : Below w.heap.size w w2 := (below_alloc hB1 _).trans (hb2.mono (by simp; omega)); have hh0 := blk_below (blk_alloc hg0 _) hb2; have hh1 := blk_below (blk_alloc hg1 _) hb2))
    go_ret
    exact ⟨rfl, hB2⟩
  | true =>
    go_wp2_with (first | (go_at_call 40; refine (soriteslaw10_alive.calls kz true _ hal).mono ?_; rintro e w1 ⟨rfl, hb1⟩; have hs1 := hb1.size; simp only [World.size_alloc] at hs1; have hB1 : Below w.heap.size w w1 := (below_alloc (below_alloc (Below.refl _ _) _) _).trans (hb1.mono (by simp; omega)); have hg0 : w1.heap[w.heap.size]? = some (.cells #[.int .i64 a.f0, .slice A a.f1.length c] 24 (0, 0)) := blk_below (blk_alloc (heap_alloc_new _ _) _) hb1; have hg1 : w1.heap[w.heap.size + 1]? = some (.cells #[.int .i64 b.f0, .slice A' b.f1.length c'] 24 (0, 0)) := blk_below (by have := heap_alloc_new (w.alloc (.cells #[.int .i64 a.f0, .slice A a.f1.length c] 24)) (.cells #[.int .i64 b.f0, .slice A' b.f1.length c'] 24); rw [World.size_alloc] at this; exact this) hb1; have hx0 : w1.cell? ⟨w.heap.size, 0, none⟩ = some (.int .i64 a.f0) := (blk_cell hg0 0).trans rfl; have hx1 : w1.cell? ⟨w.heap.size, 1, none⟩ = some (.slice A a.f1.length c) := (blk_cell hg0 1).trans rfl; have hy0 : w1.cell? ⟨w.heap.size + 1, 0, none⟩ = some (.int .i64 b.f0) := (blk_cell hg1 0).trans rfl; have hy1 : w1.cell? ⟨w.heap.size + 1, 1, none⟩ = some (.slice A' b.f1.length c') := (blk_cell hg1 1).trans rfl) | (go_at_call 21; refine (soriteslaw06_Fine.calls kF _ 2 [a, b] _ _ (C2 k24 rfl (K24 (hbA.out _ (below_alloc hB1 _)) hc) (K24 (hbB.out _ (below_alloc hB1 _)) hc') (heap_alloc_new _ _)) (by simp) hF).mono ?_; rintro e w2 ⟨rfl, hb2⟩; have hB2 : Below w.heap.size w w2 := (below_alloc hB1 _).trans (hb2.mono (by simp; omega)); have hh0 := blk_below (blk_alloc hg0 _) hb2; have hh1 := blk_below (blk_alloc hg1 _) hb2))
    have hoka := hok trivial a (by simp)
    have hokb := hok trivial b (by simp)
    refine of_two (x0 := a) (x1 := b) (g0 := w.heap.size) (g1 := w.heap.size + 1) (by kernel_rfl) (by kernel_rfl) rfl hh0 (hbA.out _ hB2) hc hoka.1 rfl hh1 (hbB.out _ hB2) hc' hokb.1 ?_
    intro w3 X0 q0 h0 X1 q1 h1 hb3 hge0 hx0' hq0 hC0 hge1 hx1' hq1 hC1
    have HB3 := Aside0.mk (hB2.trans (hb3.mono hB2.size))
    have HC0 := Aside0.mk hC0
    have HC1 := Aside0.mk hC1
    have HX0 := Aside0.mk hx0'
    have HX1 := Aside0.mk hx1'
    have hna := Nat.le_trans (nodes_le a) hoka.2
    have hnb := Nat.le_trans (nodes_le b) hokb.2
    have hfa := fit_of_ok a hoka.1 (by omega)
    have hfb := fit_of_ok b hokb.1 (by omega)
    obtain ⟨k1, e1⟩ := (KGreater_spec a b hfa hfb).rounds
    obtain ⟨k2, e2⟩ := (RGreater_spec a b hfa hfb).rounds
    obtain ⟨k3, e3⟩ := (KCompare_spec a b hfa hfb).rounds
    obtain ⟨k4, e4⟩ := (RCompare_spec a b hfa hfb).rounds
    obtain ⟨k5, e5⟩ := (RCovers_spec a b hfa hfb).rounds
    have e6 := Cov_of hfa hfb
    have FE := Aside0.mk (And.intro e1 (And.intro e2 (And.intro e3 (And.intro e4 (And.intro e5 e6)))))
    have HG := Aside0.mk (And.intro (blk_below hh0 hb3) (blk_below hh1 hb3))
    have HA := Aside0.mk (And.intro (hbA.out _ HB3.out) (hbB.out _ HB3.out))
    clear e1 e2 e3 e4 e5 e6 hfa hfb hoka hokb hok hna hnb hbA hbB hC0 hC1 hx0' hx1' hb3 hg0 hg1 hh0 hh1 hx0 hx1 hy0 hy1 hB1 hB2 hb1 hb2 hF hge0 hge1
    simp only [List.setIfInBounds_toArray, List.set_cons_zero, List.set_cons_succ]
    go_wp2
    refine KboTells_r6 (s := gtT a b) (c := covT a b) (k := kcmp a b) (by kernel_rfl) rfl HX0.out rfl HX1.out rfl HG.out.1 rfl HG.out.2 ?_ ?_ ?_ ?_ ?_ ?_ ?_
    · intro w1 hb; exact kbo_Greater.calls k1 _ _ _ a.f1 _ _ _ b.f1 _ w1 (Kd.C_below HC0.out hb) hq0 (Kd.C_below HC1.out hb) hq1 FE.out.1
    · intro w1 hb; exact soritesref10_Greater.calls k2 _ _ _ a.f1 _ _ _ b.f1 _ w1 (Kd.C_below HA.out.1 hb) hc (Kd.C_below HA.out.2 hb) hc' FE.out.2.1
    · intro w1 hb; exact kbo_Compare.calls k3 _ _ _ a.f1 _ _ _ b.f1 _ w1 (Kd.C_below HC0.out hb) hq0 (Kd.C_below HC1.out hb) hq1 FE.out.2.2.1
    · intro w1 hb; exact soritesref10_Compare.calls k4 _ _ _ a.f1 _ _ _ b.f1 _ w1 (Kd.C_below HA.out.1 hb) hc (Kd.C_below HA.out.2 hb) hc' FE.out.2.2.2.1
    · intro w1 hb; exact kbo_Covers.calls _ _ _ a.f1 _ _ _ b.f1 _ w1 (Kd.C_below HC0.out hb) hq0 (Kd.C_below HC1.out hb) hq1 FE.out.2.2.2.2.2
    · intro w1 hb; exact soritesref10_Covers.calls k5 _ _ _ a.f1 _ _ _ b.f1 _ w1 (Kd.C_below HA.out.1 hb) hc (Kd.C_below HA.out.2 hb) hc' FE.out.2.2.2.2.1
    intro v w9 hb9 hv25
    simp only [layL, Nat.reduceAdd, List.setIfInBounds_toArray, List.set_cons_zero, List.set_cons_succ, hv25]
    clear hv25
    have HB9 := Aside0.mk (HB3.out.trans (hb9.mono HB3.out.size))
    clear hb9
    generalize v 0 = t0
    generalize v 1 = t1
    generalize v 2 = t2
    generalize v 3 = t3
    generalize v 4 = t4
    generalize v 5 = t5
    generalize v 6 = t6
    generalize v 7 = t7
    generalize v 8 = t8
    generalize v 9 = t9
    generalize v 10 = t10
    generalize v 11 = t11
    generalize v 12 = t12
    generalize v 13 = t13
    generalize v 14 = t14
    generalize v 15 = t15
    generalize v 16 = t16
    generalize v 17 = t17
    generalize v 18 = t18
    generalize v 19 = t19
    generalize v 20 = t20
    generalize v 21 = t21
    generalize v 22 = t22
    generalize v 23 = t23
    generalize v 24 = t24
    clear v
    go_wp2
    go_ret
    exact ⟨rfl, HB9.out⟩
end Go.Proofs.Ytpfddihcikiofaa.P
end

section
namespace Go.Proofs.Ytpfddihcikiofaa.kboTells
open Go.ChangeShapes Go.WideShapes Go.ChangeAt Go.RowKit
set_option linter.unusedVariables false
theorem own : ownKnob Try.prog.godebug = none := by kernel_rfl
theorem laidOut : laidOutB Try.prog = true := by kernel_rfl
set_option maxRecDepth 100000 in
theorem lifted (os : Os) (started : os.Started) (H : Type) (enc : TypeId × Value → H) :
    ReturnsInHanded {} Try.checked os 8 .any (Rows.kboTellsSpec.pre6 enc Try.prog Try.f8 Rows.kboTellsRow.domain false) (Rows.kboTellsSpec.post enc Try.prog Try.f8 false true false false) := by
  refine returnsInHanded_of_change_sized (C := Try.checked) own started (by kernel_rfl) Try.func8
    (ChangeSpec.witness6 (enc := enc) (C := Try.checked) false ⟨#[], #[.agg #[.int .i64 0, .slice none 0 0], .agg #[.int .i64 0, .slice none 0 0]], []⟩ 8 (by kernel_rfl) (by kernel_rfl) (by kernel_rfl) (by kernel_rfl)) ?_
  intro W base args ds gs before hval0 hW hcnd hsz0 _
  have hval : ∀ (j : Nat) t v, Try.f8.params[j]? = some t → args[j]? = some v → Value.okWide Try.prog W .any base t v := hval0
  have hW' := hW
  obtain ⟨p, q, hA0, hV, rfl, hfz, hnd⟩ := hW
  have hA : DataW.TrodAll enc Try.prog W 0 (fun _ => true) true Try.f8.params.toList args.toList ds p := hA0
  rw [Try.params8] at hA hval
  obtain ⟨v0, vs0, d0, ds0, p0, q0, hargs, rfl, rfl, h0, r0⟩ := trodAll_cons hA
  obtain ⟨v1, vs1, d1, ds1, p1, q1, rfl, rfl, rfl, h1, r1⟩ := trodAll_cons r0
  obtain ⟨rfl, rfl, rfl⟩ := trodAll_nil r1
  obtain rfl : args = #[v0, v1] := by cases args; simp_all
  obtain ⟨rfl, rfl⟩ := trodVars_none hV
  have k0 := h0
  have lt0 : ∀ x ∈ p0, x.block < W.heap.size := by obtain ⟨m, hm⟩ := k0; exact DataW.trod_lt m _ _ _ hm
  obtain ⟨t0, A0, c0, rfl, hc0, hC0, hw0⟩ := P.open_T (hval 0 24 v0 rfl rfl) h0
  have k1 := h1
  have lt1 : ∀ x ∈ p1, x.block < W.heap.size := by obtain ⟨m, hm⟩ := k1; exact DataW.trod_lt m _ _ _ hm
  obtain ⟨t1, A1, c1, rfl, hc1, hC1, hw1⟩ := P.open_T (hval 1 24 v1 rfl rfl) h1
  clear hA0 hval0 hsz0
  refine (P.KboTells_walk t0 t1 A0 c0 A1 c1 W hC0 hc0 hC1 hc1).mono fun e W' ⟨he, bel⟩ => ?_
  subst he
  exact ⟨_, rfl, _, _, _, [], _, [], hW', trodAll_mk1 (shut_bool Try.underlying4 _), (trodAll_cons_mk (Below.trod laidOut (by kernel_rfl) (of_decide_eq_true (by kernel_rfl)) k0 bel lt0) (trodAll_cons_mk (Below.trod laidOut (by kernel_rfl) (of_decide_eq_true (by kernel_rfl)) k1 bel lt1) trodAll_mk0)), rfl, bel.frame _, fun h => by cases h⟩
theorem over : Rows.kboTellsRow.holds Try.pinned (OpenSpec.ofChange Rows.kboTellsSpec) :=
  OpenClaim.holds_of_wide 8 Try.f8 rfl rfl rfl rfl rfl rfl rfl ⟨rfl, rfl, rfl, rfl, rfl⟩ rfl rfl rfl rfl rfl (by kernel_rfl) Try.func8 (by kernel_rfl)
    (of_decide_eq_true (by kernel_rfl)) (by unfold Func.isWrapper; first | (rw [if_pos (by decide +kernel)]; kernel_rfl) | (rw [if_neg (by decide +kernel)]; exact ⟨rfl, rfl⟩))
    (fun os started H enc _ => lifted os started H enc)
end Go.Proofs.Ytpfddihcikiofaa.kboTells
namespace Go.Proofs.Ytpfddihcikiofaa
theorem kboTells_holds : Rows.KboTellsSaid := kboTells.over
#print axioms kboTells_holds
end Go.Proofs.Ytpfddihcikiofaa
end
