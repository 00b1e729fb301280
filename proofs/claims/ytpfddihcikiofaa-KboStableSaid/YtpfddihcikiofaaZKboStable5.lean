/- The law KboStable holds of every input. Part 5 of 6: PxKboGreater, PxKboCompare, PxSoriteslaw10Alive, GSpec10, GKboLaw, GPlaceLaw, GStable, PxSoriteslaw07Fine. -/
import Derived.Test.YtpfddihcikiofaaZKboStable2
import Derived.Test.YtpfddihcikiofaaZKboStable3
import Derived.Test.YtpfddihcikiofaaZKboStable4
import Derived.Test.YtpfddihcikiofaaZKboStable1
section
namespace Go.Proofs.Ytpfddihcikiofaa.P
open Go.RowKit Go.Proofs.YtpfddihcikiofaaW.PrintWords Go.Proofs.YtpfddihcikiofaaW.PrintLast Go.Proofs.YtpfddihcikiofaaW.PrintMore
attribute [local go_sem] max2_int min2_int max_two min_two max_three min_three max_four min_four
set_option linter.unusedVariables false
set_option linter.unusedSimpArgs false
mutual
def kbo_Greater.j0 : Nat → Bool → Int → List (S30) → Int → List (S30) → Option (Bool)
  | 0, _, _, _, _, _ => none
  | k + 1, x29, x267000, x267001, x268000, x268001 => if x29 = true then (some false) else ((cmp_Compare_int.f x267000 x268000).bind fun t272 => ((cmp_Compare_int.f (x267001.length : Int) (x268001.length : Int)).bind fun t273 => ((cmp_Or_int.f k (([t272, t273] : List Int))).bind fun t277 => (if t277 = 0 then (kbo_Greater.l0 k x267001 (x267001.length : Int) 0 x268000 x268001) else (some (decide (t277 > 0)))))))
def kbo_Greater.l0 : Nat → List (S30) → Int → Int → Int → List (S30) → Option (Bool)
  | 0, _, _, _, _, _ => none
  | k + 1, x49, x50, x51, x268000, x268001 => if x51 < x50 then (if 0 ≤ x51 then (if x51 < (x49.length : Int) then (if x51 < (x268001.length : Int) then ((term_Same.f ((rd_T30 x49 x51).f0) ((rd_T30 x49 x51).f1) ((rd_T30 x268001 x51).f0) ((rd_T30 x268001 x51).f1)).bind fun t281 => (if t281 = true then (kbo_Greater.l0 k x49 x50 (wrap64 (x51 + 1)) x268000 x268001) else ((kbo_Greater.f k ((rd_T30 x49 x51).f0) ((rd_T30 x49 x51).f1) ((rd_T30 x268001 x51).f0) ((rd_T30 x268001 x51).f1)).bind fun t283 => (some t283)))) else (none)) else (none)) else (none)) else (some false)
def kbo_Greater.f : Nat → Int → List (S30) → Int → List (S30) → Option (Bool)
  | 0, _, _, _, _ => none
  | k + 1, a0_0, l0_1, a1_0, l1_1 => (kbo_Covers.f a0_0 l0_1 a1_0 l1_1).bind fun t268 => (if t268 = true then ((term_Size.f a0_0 l0_1).bind fun t269 => ((term_Size.f a1_0 l1_1).bind fun t270 => ((cmp_Compare_int.f t269 t270).bind fun t271 => (if t271 = 0 then (if a0_0 < 0 then (kbo_Greater.j0 k true a0_0 l0_1 a1_0 l1_1) else (kbo_Greater.j0 k (decide (a1_0 < 0)) a0_0 l0_1 a1_0 l1_1)) else (some (decide (t271 > 0))))))) else (some false))
end
def kbo_Greater.T8 : Bool × List (List Nat × List Nat) := (true, [([], []), ([0], [0]), ([], []), ([2], [2]), ([1, 3], [1, 3]), ([], []), ([5], [5]), ([6], [6]), ([], []), ([8], [8]), ([9], [9]), ([7, 10, 4], [7, 10]), ([4, 11], [4, 11]), ([12, 11], [12]), ([13, 13, 0, 1, 2, 3, 4, 5, 6, 7, 8, 9, 10, 11, 12, 13], [13])])
def kbo_Greater.B8 : List Nat := [0, 1, 0, 4, 15, 0, 32, 96, 0, 256, 768, 2047, 4095, 8191, 16383]
theorem kbo_Greater.tab8 : rtab .any (opsOf Try.f41 8) = kbo_Greater.T8 := by kernel_rfl
theorem kbo_Greater.bits8 : waitsOk kbo_Greater.T8.2 kbo_Greater.B8 = true := by kernel_rfl
def kbo_Greater.T14 : Bool × List (List Nat × List Nat) := (true, [([], []), ([], []), ([1], [1]), ([], []), ([2, 3], [2, 3]), ([4], [4]), ([0, 5], [0, 5]), ([6], [6])])
def kbo_Greater.B14 : List Nat := [0, 0, 2, 0, 14, 30, 63, 127]
theorem kbo_Greater.tab14 : rtab .any (opsOf Try.f41 14) = kbo_Greater.T14 := by kernel_rfl
theorem kbo_Greater.bits14 : waitsOk kbo_Greater.T14.2 kbo_Greater.B14 = true := by kernel_rfl
def kbo_Greater.T15 : Bool × List (List Nat × List Nat) := (true, [([], []), ([], []), ([1], [1]), ([], []), ([2, 3], [2, 3]), ([4], [4]), ([0, 5], [0, 5]), ([6, 6, 0, 1, 2, 3, 4, 5, 6], [6])])
def kbo_Greater.B15 : List Nat := [0, 0, 2, 0, 14, 30, 63, 127]
theorem kbo_Greater.tab15 : rtab .any (opsOf Try.f41 15) = kbo_Greater.T15 := by kernel_rfl
theorem kbo_Greater.bits15 : waitsOk kbo_Greater.T15.2 kbo_Greater.B15 = true := by kernel_rfl
set_option maxHeartbeats 8000000 in
set_option maxRecDepth 100000 in
theorem kbo_Greater.calls (k : Nat) : ∀ (a0_0 : Int) (A0_1 : Option Addr) (c0_1 : Nat) (l0_1 : List (S30)) (a1_0 : Int) (A1_1 : Option Addr) (c1_1 : Nat) (l1_1 : List (S30)) (r : Bool) (w : World) (hr0_1 : Kd.C k30 w A0_1 l0_1.length l0_1) (hc0_1 : l0_1.length ≤ c0_1) (hr1_1 : Kd.C k30 w A1_1 l1_1.length l1_1) (hc1_1 : l1_1.length ≤ c1_1) (h : kbo_Greater.f k a0_0 l0_1 a1_0 l1_1 = some r),
    Calls Try.prog 41 #[.agg #[.int .i64 a0_0, .slice A0_1 l0_1.length c0_1], .agg #[.int .i64 a1_0, .slice A1_1 l1_1.length c1_1]] w fun e w' => e = .returned (.bool r) ∧ Below w.heap.size w w' := by
  induction k using Nat.strongRecOn with
  | _ k ih =>
  intro a0_0 A0_1 c0_1 l0_1 a1_0 A1_1 c1_1 l1_1 r w hr0_1 hc0_1 hr1_1 hc1_1 h
  cases k with
  | zero => exact absurd h (by simp [kbo_Greater.f])
  | succ k =>
  simp only [kbo_Greater.f] at h
  have hu30 := Try.underlying30
  have HR0_1 := Aside0.mk hr0_1
  have HC0_1 := Aside0.mk hc0_1
  clear hr0_1 hc0_1
  have HR1_1 := Aside0.mk hr1_1
  have HC1_1 := Aside0.mk hc1_1
  clear hr1_1 hc1_1
  have HB := Aside0.mk (Below.refl w.heap.size w)
  have H : ((kbo_Covers.f a0_0 l0_1 a1_0 l1_1).bind fun t268 => (if t268 = true then ((term_Size.f a0_0 l0_1).bind fun t269 => ((term_Size.f a1_0 l1_1).bind fun t270 => ((cmp_Compare_int.f t269 t270).bind fun t271 => (if t271 = 0 then (if a0_0 < 0 then (kbo_Greater.j0 k true a0_0 l0_1 a1_0 l1_1) else (kbo_Greater.j0 k (decide (a1_0 < 0)) a0_0 l0_1 a1_0 l1_1)) else (some (decide (t271 > 0))))))) else (some false))) = some r := h
  clear h
  replace H := Option.bind_eq_some_iff.mp H
  obtain ⟨t268, A30, H⟩ := H
  replace H : (if t268 = true then ((term_Size.f a0_0 l0_1).bind fun t269 => ((term_Size.f a1_0 l1_1).bind fun t270 => ((cmp_Compare_int.f t269 t270).bind fun t271 => (if t271 = 0 then (if a0_0 < 0 then (kbo_Greater.j0 k true a0_0 l0_1 a1_0 l1_1) else (kbo_Greater.j0 k (decide (a1_0 < 0)) a0_0 l0_1 a1_0 l1_1)) else (some (decide (t271 > 0))))))) else (some false)) = some r := H
  have A3 := Aside0.mk A30
  clear A30
  by_cases c4 : t268 = true
  · subst c4
    have H1 : ((term_Size.f a0_0 l0_1).bind fun t269 => ((term_Size.f a1_0 l1_1).bind fun t270 => ((cmp_Compare_int.f t269 t270).bind fun t271 => (if t271 = 0 then (if a0_0 < 0 then (kbo_Greater.j0 k true a0_0 l0_1 a1_0 l1_1) else (kbo_Greater.j0 k (decide (a1_0 < 0)) a0_0 l0_1 a1_0 l1_1)) else (some (decide (t271 > 0))))))) = some r := by rw [if_pos rfl] at H; exact H
    clear H
    have H := H1
    clear H1
    replace H := Option.bind_eq_some_iff.mp H
    obtain ⟨t269, A50, H⟩ := H
    replace H : ((term_Size.f a1_0 l1_1).bind fun t270 => ((cmp_Compare_int.f t269 t270).bind fun t271 => (if t271 = 0 then (if a0_0 < 0 then (kbo_Greater.j0 k true a0_0 l0_1 a1_0 l1_1) else (kbo_Greater.j0 k (decide (a1_0 < 0)) a0_0 l0_1 a1_0 l1_1)) else (some (decide (t271 > 0)))))) = some r := H
    have A5 := Aside0.mk A50
    clear A50
    replace H := Option.bind_eq_some_iff.mp H
    obtain ⟨t270, A60, H⟩ := H
    replace H : ((cmp_Compare_int.f t269 t270).bind fun t271 => (if t271 = 0 then (if a0_0 < 0 then (kbo_Greater.j0 k true a0_0 l0_1 a1_0 l1_1) else (kbo_Greater.j0 k (decide (a1_0 < 0)) a0_0 l0_1 a1_0 l1_1)) else (some (decide (t271 > 0))))) = some r := H
    have A6 := Aside0.mk A60
    clear A60
    replace H := Option.bind_eq_some_iff.mp H
    obtain ⟨t271, A70, H⟩ := H
    replace H : (if t271 = 0 then (if a0_0 < 0 then (kbo_Greater.j0 k true a0_0 l0_1 a1_0 l1_1) else (kbo_Greater.j0 k (decide (a1_0 < 0)) a0_0 l0_1 a1_0 l1_1)) else (some (decide (t271 > 0)))) = some r := H
    have A7 := Aside0.mk A70
    clear A70
    by_cases c8 : t271 = 0
    · rw [if_pos c8] at H
      have c8b0 : (t271 == 0) = true := beq_iff_eq.mpr c8
      have c8b1 : (t271 != 0) = false := bne_eq_false_iff_eq.mpr c8
      clear c8
      have HC9 := Aside0.mk H
      clear H
      go_enter Try.func41, Try.ntmps41
      try go_wp2_with (first | ((with_reducible refine gate_dst (N := 2) rfl ?_); refine box_event ?hg (N := 2) ?hd (cs := #[.int .i64 a0_0, .slice A0_1 l0_1.length c0_1]) (t := 30) ?hr ?_; (case hd => rfl); (case hg => rfl); (case hr => first | (go_simp; done) | (go_simp; rfl)); intro gb266 hg w10 hbox hb; have n0_ := Aside0.mk (below_step (by repeat (first | (with_reducible first | exact HB.out | apply below_alloc | apply pw_below_drewN | apply below_drew1) | exact HB.out)) hb); have n1_ := Aside0.mk (hbox); have n2_ := Aside0.mk ((by rw [hg]; exact (below_size (by repeat (first | (with_reducible first | exact HB.out | apply below_alloc | apply pw_below_drewN | apply below_drew1) | exact HB.out))) : w.heap.size ≤ gb266)); have n3_ := Aside0.mk ((by rw [hg]; exact (below_size (by repeat (first | (with_reducible first | exact HB.out | apply below_alloc | apply pw_below_drewN | apply below_drew1) | exact HB.out))) : w.heap.size ≤ gb266)); clear HB; have HB := n0_; have BK266 := n1_; have GW266 := n2_; have GE266 := n3_; clear n0_ n1_ n2_ n3_; clear hb hbox hg) | ((with_reducible refine gate_dst (N := 3) rfl ?_); refine box_event ?hg (N := 3) ?hd (cs := #[.int .i64 a1_0, .slice A1_1 l1_1.length c1_1]) (t := 30) ?hr ?_; (case hd => rfl); (case hg => rfl); (case hr => first | (go_simp; done) | (go_simp; rfl)); intro gb267 hg w11 hbox hb; have n0_ := Aside0.mk (blk_below (g := gb266) (o := .cells #[.int .i64 a0_0, .slice A0_1 l0_1.length c0_1] 30 (0, 0)) (by (with_reducible repeat (first | refine blk_drewN ?_ _ | refine blk_drew ?_ | refine blk_alloc ?_ _)); exact BK266.out) hb); have n1_ := Aside0.mk (below_step (by repeat (first | (with_reducible first | exact HB.out | apply below_alloc | apply pw_below_drewN | apply below_drew1 | refine below_set ?_ GE266.out) | exact HB.out)) hb); have n2_ := Aside0.mk (hbox); have n3_ := Aside0.mk ((by rw [hg]; exact (below_size (by repeat (first | (with_reducible first | exact HB.out | apply below_alloc | apply pw_below_drewN | apply below_drew1 | refine below_set ?_ GE266.out) | exact HB.out))) : w.heap.size ≤ gb267)); have n4_ := Aside0.mk ((by rw [hg]; exact (below_size (by repeat (first | (with_reducible first | exact HB.out | apply below_alloc | apply pw_below_drewN | apply below_drew1 | refine below_set ?_ GE266.out) | exact HB.out))) : w.heap.size ≤ gb267)); have n5_ := Aside0.mk ((by rw [hg]; exact Nat.ne_of_lt (blk_lt (g := gb266) (o := .cells #[.int .i64 a0_0, .slice A0_1 l0_1.length c0_1] 30 (0, 0)) (by (with_reducible repeat (first | refine blk_drewN ?_ _ | refine blk_drew ?_ | refine blk_alloc ?_ _)); exact BK266.out)) : gb266 ≠ gb267)); have n6_ := Aside0.mk ((by rw [hg]; exact Nat.ne_of_gt (blk_lt (g := gb266) (o := .cells #[.int .i64 a0_0, .slice A0_1 l0_1.length c0_1] 30 (0, 0)) (by (with_reducible repeat (first | refine blk_drewN ?_ _ | refine blk_drew ?_ | refine blk_alloc ?_ _)); exact BK266.out)) : gb267 ≠ gb266)); clear BK266; clear HB; have BK266 := n0_; have HB := n1_; have BK267 := n2_; have GW267 := n3_; have GE267 := n4_; have NB266_267 := n5_; have NB267_266 := n6_; clear n0_ n1_ n2_ n3_ n4_ n5_ n6_; clear hb hbox hg; have hnb12 := NB266_267.out; have hnc12 := NB267_266.out; have hcz13_0 : w11.cell? ⟨gb266, 0, none⟩ = some (.int .i64 a0_0) := (blk_cell BK266.out 0).trans rfl; have hcz13_1 : w11.cell? ⟨gb266, 1, none⟩ = some (.slice A0_1 l0_1.length c0_1) := (blk_cell BK266.out 1).trans rfl; have hfz13_0 := blk_frozen BK266.out 0; have hfz13_1 := blk_frozen BK266.out 1; have hcz14_0 : w11.cell? ⟨gb267, 0, none⟩ = some (.int .i64 a1_0) := (blk_cell BK267.out 0).trans rfl; have hcz14_1 : w11.cell? ⟨gb267, 1, none⟩ = some (.slice A1_1 l1_1.length c1_1) := (blk_cell BK267.out 1).trans rfl; have hfz14_0 := blk_frozen BK267.out 0; have hfz14_1 := blk_frozen BK267.out 1) | ((with_reducible refine gate_callee (f := 45) rfl ?_); refine goesL_ (some 11) rfl rfl Try.func45 (by kernel_rfl) rfl #[.agg #[.int .i64 a0_0, .slice A0_1 l0_1.length c0_1], .agg #[.int .i64 a1_0, .slice A1_1 l1_1.length c1_1]] rfl (by (try simp only [List.map_toArray, List.map_cons, List.map_nil]); first | done | rfl | (simp only [List.length_drop, List.length_take]; rfl)) ?_; (with_reducible refine (kbo_Covers.calls a0_0 _ _ l0_1 a1_0 _ _ l1_1 true _ ?side1 ?side2 ?side3 ?side4 A3.out).mono ?_); (case side1 => repeat (first | exact (Kd.C_below HR0_1.out HB.out) | (with_reducible refine Kd.C_alloc ?_ _) | (with_reducible refine Kd.C_drewN ?_ _) | (with_reducible refine Kd.C_drew ?_))); (case side2 => exact HC0_1.out); (case side3 => repeat (first | exact (Kd.C_below HR1_1.out HB.out) | (with_reducible refine Kd.C_alloc ?_ _) | (with_reducible refine Kd.C_drewN ?_ _) | (with_reducible refine Kd.C_drew ?_))); (case side4 => exact HC1_1.out); rintro e w15 ⟨rfl, hb⟩; refine ⟨_, rfl, ?_⟩; have n0_ := Aside0.mk (blk_below (g := gb266) (o := .cells #[.int .i64 a0_0, .slice A0_1 l0_1.length c0_1] 30 (0, 0)) (by (with_reducible repeat (first | refine blk_drewN ?_ _ | refine blk_drew ?_ | refine blk_alloc ?_ _)); exact BK266.out) hb); have n1_ := Aside0.mk (blk_below (g := gb267) (o := .cells #[.int .i64 a1_0, .slice A1_1 l1_1.length c1_1] 30 (0, 0)) (by (with_reducible repeat (first | refine blk_drewN ?_ _ | refine blk_drew ?_ | refine blk_alloc ?_ _)); exact BK267.out) hb); have n2_ := Aside0.mk (below_step (by repeat (first | (with_reducible first | exact HB.out | apply below_alloc | apply pw_below_drewN | apply below_drew1 | refine below_set ?_ GE266.out | refine below_set ?_ GE267.out) | exact HB.out)) hb); clear BK266; clear BK267; clear HB; have BK266 := n0_; have BK267 := n1_; have HB := n2_; clear n0_ n1_ n2_; (try clear hb); (try clear hb2); (try clear hk); (try clear hi)))
      have n0_ := Aside0.mk (blk_drew BK266.out)
      have n1_ := Aside0.mk (blk_drew BK267.out)
      have n2_ := Aside0.mk (below_drew1 HB.out)
      clear BK266
      clear BK267
      clear HB
      have BK266 := n0_
      have BK267 := n1_
      have HB := n2_
      clear n0_ n1_ n2_
      refine start_ (n := 6) (S := fun w' => w'.cell? ⟨gb266, 0, none⟩ = some (.int .i64 a0_0) ∧ w'.cell? ⟨gb266, 1, none⟩ = some (.slice A0_1 l0_1.length c0_1) ∧ w'.cell? ⟨gb267, 0, none⟩ = some (.int .i64 a1_0) ∧ w'.cell? ⟨gb267, 1, none⟩ = some (.slice A1_1 l1_1.length c1_1)) (ds := []) #[false, false, false, false, false, false] (by kernel_rfl) rfl rfl ⟨(blk_cell BK266.out 0).trans rfl, (blk_cell BK266.out 1).trans rfl, (blk_cell BK267.out 0).trans rfl, (blk_cell BK267.out 1).trans rfl⟩ (fun hHeld => ?_)
      generalize w15.drew = w16 at BK266 BK267 HB hHeld ⊢
      refine take_ (i := 0) (N := some 13) (v := ?_) (a' := ?_) #[true, false, false, false, false, false] rfl rfl (by kernel_rfl) (fun _ _ _ h => h) (Or.inl ⟨by rfl, ?_⟩) hHeld ?_ ?_
      rotate_left
      · rintro w' ⟨s0, s1, s2, s3⟩
        go_simp
        with_reducible rfl
      rotate_left
      · simp only [Act.put, List.setIfInBounds_toArray, List.set_cons_zero, List.set_cons_succ, i64_w, i32_w]
        rfl
      refine take_ (i := 2) (N := some 15) (v := ?_) (a' := ?_) #[true, false, true, false, false, false] rfl rfl (by kernel_rfl) (fun _ _ _ h => h) (Or.inl ⟨by rfl, ?_⟩) hHeld ?_ ?_
      rotate_left
      · rintro w' ⟨s0, s1, s2, s3⟩
        go_simp
        with_reducible rfl
      rotate_left
      · simp only [Act.put, List.setIfInBounds_toArray, List.set_cons_zero, List.set_cons_succ, i64_w, i32_w]
        rfl
      refine one_ (i := 1) (N := some 14) #[true, true, true, false, false, false] rfl rfl (by kernel_rfl) (by decide) (fun K hK => ?_)
      refine goes_ Try.func34 (by kernel_rfl) rfl #[.agg #[.int .i64 a0_0, .slice A0_1 l0_1.length c0_1]] (by rfl) rfl rfl (by (try simp only [List.map_toArray, List.map_cons, List.map_nil]); first | done | rfl | (simp only [List.length_drop, List.length_take]; rfl)) ?_
      with_reducible refine (term_Size.calls a0_0 _ _ l0_1 t269 _ ?side1 ?side2 A5.out).mono ?_
      (case side1 => repeat (first | exact (Kd.C_below HR0_1.out HB.out) | (with_reducible refine Kd.C_alloc ?_ _) | (with_reducible refine Kd.C_drewN ?_ _) | (with_reducible refine Kd.C_drew ?_)))
      (case side2 => exact HC0_1.out)
      rintro e w17 ⟨rfl, hb⟩
      refine ⟨_, rfl, ?_⟩
      have n0_ := Aside0.mk (blk_below (g := gb266) (o := .cells #[.int .i64 a0_0, .slice A0_1 l0_1.length c0_1] 30 (0, 0)) (by (with_reducible repeat (first | refine blk_drewN ?_ _ | refine blk_drew ?_ | refine blk_alloc ?_ _)); exact BK266.out) hb)
      have n1_ := Aside0.mk (blk_below (g := gb267) (o := .cells #[.int .i64 a1_0, .slice A1_1 l1_1.length c1_1] 30 (0, 0)) (by (with_reducible repeat (first | refine blk_drewN ?_ _ | refine blk_drew ?_ | refine blk_alloc ?_ _)); exact BK267.out) hb)
      have n2_ := Aside0.mk (below_step (by repeat (first | (with_reducible first | exact HB.out | apply below_alloc | apply pw_below_drewN | apply below_drew1 | refine below_set ?_ GE266.out | refine below_set ?_ GE267.out) | exact HB.out)) hb)
      clear BK266
      clear BK267
      clear HB
      have BK266 := n0_
      have BK267 := n1_
      have HB := n2_
      clear n0_ n1_ n2_
      (try clear hb)
      (try clear hb2)
      (try clear hk)
      (try clear hi)
      refine hK.out _ _ ⟨(blk_cell BK266.out 0).trans rfl, (blk_cell BK266.out 1).trans rfl, (blk_cell BK267.out 0).trans rfl, (blk_cell BK267.out 1).trans rfl⟩ (fun hHeld => ?_)
      clear hK K
      refine norm_ (a' := ?_) ?_ ?_
      rotate_left
      · show Act.put _ (some 14) _ = _
        simp only [Act.put, List.setIfInBounds_toArray, List.set_cons_zero, List.set_cons_succ, i64_w, i32_w]
        rfl
      refine one_ (i := 3) (N := some 16) #[true, true, true, true, false, false] rfl rfl (by kernel_rfl) (by decide) (fun K hK => ?_)
      refine goes_ Try.func34 (by kernel_rfl) rfl #[.agg #[.int .i64 a1_0, .slice A1_1 l1_1.length c1_1]] (by rfl) rfl rfl (by (try simp only [List.map_toArray, List.map_cons, List.map_nil]); first | done | rfl | (simp only [List.length_drop, List.length_take]; rfl)) ?_
      with_reducible refine (term_Size.calls a1_0 _ _ l1_1 t270 _ ?side1 ?side2 A6.out).mono ?_
      (case side1 => repeat (first | exact (Kd.C_below HR1_1.out HB.out) | (with_reducible refine Kd.C_alloc ?_ _) | (with_reducible refine Kd.C_drewN ?_ _) | (with_reducible refine Kd.C_drew ?_)))
      (case side2 => exact HC1_1.out)
      rintro e w18 ⟨rfl, hb⟩
      refine ⟨_, rfl, ?_⟩
      have n0_ := Aside0.mk (blk_below (g := gb266) (o := .cells #[.int .i64 a0_0, .slice A0_1 l0_1.length c0_1] 30 (0, 0)) (by (with_reducible repeat (first | refine blk_drewN ?_ _ | refine blk_drew ?_ | refine blk_alloc ?_ _)); exact BK266.out) hb)
      have n1_ := Aside0.mk (blk_below (g := gb267) (o := .cells #[.int .i64 a1_0, .slice A1_1 l1_1.length c1_1] 30 (0, 0)) (by (with_reducible repeat (first | refine blk_drewN ?_ _ | refine blk_drew ?_ | refine blk_alloc ?_ _)); exact BK267.out) hb)
      have n2_ := Aside0.mk (below_step (by repeat (first | (with_reducible first | exact HB.out | apply below_alloc | apply pw_below_drewN | apply below_drew1 | refine below_set ?_ GE266.out | refine below_set ?_ GE267.out) | exact HB.out)) hb)
      clear BK266
      clear BK267
      clear HB
      have BK266 := n0_
      have BK267 := n1_
      have HB := n2_
      clear n0_ n1_ n2_
      (try clear hb)
      (try clear hb2)
      (try clear hk)
      (try clear hi)
      refine hK.out _ _ ⟨(blk_cell BK266.out 0).trans rfl, (blk_cell BK266.out 1).trans rfl, (blk_cell BK267.out 0).trans rfl, (blk_cell BK267.out 1).trans rfl⟩ (fun hHeld => ?_)
      clear hK K
      refine norm_ (a' := ?_) ?_ ?_
      rotate_left
      · show Act.put _ (some 16) _ = _
        simp only [Act.put, List.setIfInBounds_toArray, List.set_cons_zero, List.set_cons_succ, i64_w, i32_w]
        rfl
      refine one_ (i := 4) (N := some 17) #[true, true, true, true, true, false] rfl rfl (by kernel_rfl) (by decide) (fun K hK => ?_)
      refine goes_ Try.func76 (by kernel_rfl) rfl #[.int .i64 t269, .int .i64 t270] (by rfl) rfl rfl (by (try simp only [List.map_toArray, List.map_cons, List.map_nil]); first | done | rfl | (simp only [List.length_drop, List.length_take]; rfl)) ?_
      with_reducible refine (cmp_Compare_int.calls t269 t270 t271 _ A7.out).mono ?_
      rintro e w' ⟨rfl, ⟨nd, rfl⟩⟩
      refine ⟨_, rfl, ?_⟩
      refine hK.out _ _ ⟨(blk_cell BK266.out 0).trans rfl, (blk_cell BK266.out 1).trans rfl, (blk_cell BK267.out 0).trans rfl, (blk_cell BK267.out 1).trans rfl⟩ (fun hHeld => ?_)
      clear hK K
      refine norm_ (a' := ?_) ?_ ?_
      rotate_left
      · show Act.put _ (some 17) _ = _
        simp only [Act.put, List.setIfInBounds_toArray, List.set_cons_zero, List.set_cons_succ, i64_w, i32_w]
        rfl
      refine pure_ (i := 5) (N := some 5) (v := ?_) (a' := ?_) #[true, true, true, true, true, true] rfl rfl (by kernel_rfl) (fun _ _ _ h => h) (Or.inl ⟨by rfl, ?_⟩) ?_ ?_
      rotate_left
      · intro w'
        go_simp
        with_reducible rfl
      rotate_left
      · simp only [Act.put, List.setIfInBounds_toArray, List.set_cons_zero, List.set_cons_succ, i64_w, i32_w]
        rfl
      refine done_ (by kernel_rfl) ?_
      go_upto_region 6 with (fail)
      go_cut [29] (fun v29 wc => ∃ (kq : Nat) (x29_8 : Bool), v29 = .bool x29_8 ∧ Aside0 (kbo_Greater.j0 kq x29_8 a0_0 l0_1 a1_0 l1_1 = some r) ∧ Aside0 (kq ≤ k) ∧ Aside0 (wc.heap[gb266]? = some (.cells #[.int .i64 a0_0, (.slice A0_1 l0_1.length c0_1)] 30 (0, 0))) ∧ Aside0 (wc.heap[gb267]? = some (.cells #[.int .i64 a1_0, (.slice A1_1 l1_1.length c1_1)] 30 (0, 0))) ∧ Aside0 (Below w.heap.size w wc))
      case first =>
        have H := HC9.out
        clear HC9
        by_cases c19 : a0_0 < 0
        · rw [if_pos c19] at H
          have c19b0 : decide (a0_0 < 0) = true := decide_eq_true c19
          clear c19
          (first | rw [c19b0] | (simp only [i64_w, i32_w]; rw [c19b0]) | skip)
          have H' := Aside0.mk H
          clear H
          have hnb20 := NB266_267.out
          have hnc20 := NB267_266.out
          have hcz21_0 : w18.cell? ⟨gb266, 0, none⟩ = some (.int .i64 a0_0) := (blk_cell BK266.out 0).trans rfl
          have hcz21_1 : w18.cell? ⟨gb266, 1, none⟩ = some (.slice A0_1 l0_1.length c0_1) := (blk_cell BK266.out 1).trans rfl
          have hfz21_0 := blk_frozen BK266.out 0
          have hfz21_1 := blk_frozen BK266.out 1
          go_wp2
          go_meet
          case rel => exact ⟨_, (true), (by first | rfl | (simp; done) | (simp [*]; done)), H', ⟨by first | omega | exact Nat.le_refl _⟩, ⟨by (with_reducible repeat (first | refine blk_drewN ?_ _ | refine blk_drew ?_ | refine blk_alloc ?_ _)); exact BK266.out⟩, ⟨by (with_reducible repeat (first | refine blk_drewN ?_ _ | refine blk_drew ?_ | refine blk_alloc ?_ _)); exact BK267.out⟩, ⟨by repeat (first | (with_reducible first | exact HB.out | apply below_alloc | apply pw_below_drewN | apply below_drew1 | refine below_set ?_ GE266.out | refine below_set ?_ GE267.out) | exact HB.out)⟩⟩
        · rw [if_neg c19] at H
          have c19b0 : decide (a0_0 < 0) = false := decide_eq_false c19
          clear c19
          (first | rw [c19b0] | (simp only [i64_w, i32_w]; rw [c19b0]) | skip)
          have H' := Aside0.mk H
          clear H
          have hnb22 := NB266_267.out
          have hnc22 := NB267_266.out
          have hcz23_0 : w18.cell? ⟨gb266, 0, none⟩ = some (.int .i64 a0_0) := (blk_cell BK266.out 0).trans rfl
          have hcz23_1 : w18.cell? ⟨gb266, 1, none⟩ = some (.slice A0_1 l0_1.length c0_1) := (blk_cell BK266.out 1).trans rfl
          have hfz23_0 := blk_frozen BK266.out 0
          have hfz23_1 := blk_frozen BK266.out 1
          have hcz24_0 : w18.cell? ⟨gb267, 0, none⟩ = some (.int .i64 a1_0) := (blk_cell BK267.out 0).trans rfl
          have hcz24_1 : w18.cell? ⟨gb267, 1, none⟩ = some (.slice A1_1 l1_1.length c1_1) := (blk_cell BK267.out 1).trans rfl
          have hfz24_0 := blk_frozen BK267.out 0
          have hfz24_1 := blk_frozen BK267.out 1
          go_wp2
          go_meet
          case rel => exact ⟨_, (decide (a1_0 < 0)), (by first | rfl | (simp; done) | (simp [*]; done)), H', ⟨by first | omega | exact Nat.le_refl _⟩, ⟨by (with_reducible repeat (first | refine blk_drewN ?_ _ | refine blk_drew ?_ | refine blk_alloc ?_ _)); exact BK266.out⟩, ⟨by (with_reducible repeat (first | refine blk_drewN ?_ _ | refine blk_drew ?_ | refine blk_alloc ?_ _)); exact BK267.out⟩, ⟨by repeat (first | (with_reducible first | exact HB.out | apply below_alloc | apply pw_below_drewN | apply below_drew1 | refine below_set ?_ GE266.out | refine below_set ?_ GE267.out) | exact HB.out)⟩⟩
      case rest =>
        clear HC9
        try clear c1
        try clear c2
        try clear p2
        try clear c3
        try clear c4
        try clear c7
        try clear c8
        try clear c8b0
        try clear c8b1
        try clear c12
        try clear c19
        try clear c19b0
        try clear c20
        try clear c22
        try clear hcz13_0
        try clear hcz13_1
        try clear hcz14_0
        try clear hcz14_1
        try clear hcz21_0
        try clear hcz21_1
        try clear hcz23_0
        try clear hcz23_1
        try clear hcz24_0
        try clear hcz24_1
        try clear hfz13_0
        try clear hfz13_1
        try clear hfz14_0
        try clear hfz14_1
        try clear hfz21_0
        try clear hfz21_1
        try clear hfz23_0
        try clear hfz23_1
        try clear hfz24_0
        try clear hfz24_1
        obtain ⟨kq, x29_8, rfl, HA, HJ8, BK266, BK267, HB⟩ := hcut
        cases kq with
        | zero => exact absurd HA.out (by simp [kbo_Greater.j0])
        | succ kj8 =>
          have H := HA.out
          clear HA
          simp only [kbo_Greater.j0] at H
          by_cases c25 : x29_8 = true
          · subst c25
            have H1 : (some false) = some r := by rw [if_pos rfl] at H; exact H
            clear H
            have H := H1
            clear H1
            obtain rfl := Option.some.inj H
            go_wp2
            go_ret
            exact ⟨by first | rfl | (simp [errW_none, errW_some] <;> rfl) | (simp [*, errW_none, errW_some] <;> rfl), by repeat (first | (with_reducible first | exact HB.out | apply below_alloc | apply pw_below_drewN | apply below_drew1 | refine below_set ?_ GE266.out | refine below_set ?_ GE267.out) | exact HB.out)⟩
          · replace c25 := Bool.eq_false_iff.mpr c25
            subst c25
            have H1 : ((cmp_Compare_int.f a0_0 a1_0).bind fun t272 => ((cmp_Compare_int.f (l0_1.length : Int) (l1_1.length : Int)).bind fun t273 => ((cmp_Or_int.f kj8 (([t272, t273] : List Int))).bind fun t277 => (if t277 = 0 then (kbo_Greater.l0 kj8 l0_1 (l0_1.length : Int) 0 a1_0 l1_1) else (some (decide (t277 > 0))))))) = some r := by rw [if_neg (show ¬ (false = true) by decide)] at H; exact H
            clear H
            have H := H1
            clear H1
            replace H := Option.bind_eq_some_iff.mp H
            obtain ⟨t272, A260, H⟩ := H
            replace H : ((cmp_Compare_int.f (l0_1.length : Int) (l1_1.length : Int)).bind fun t273 => ((cmp_Or_int.f kj8 (([t272, t273] : List Int))).bind fun t277 => (if t277 = 0 then (kbo_Greater.l0 kj8 l0_1 (l0_1.length : Int) 0 a1_0 l1_1) else (some (decide (t277 > 0)))))) = some r := H
            have A26 := Aside0.mk A260
            clear A260
            replace H := Option.bind_eq_some_iff.mp H
            obtain ⟨t273, A270, H⟩ := H
            replace H : ((cmp_Or_int.f kj8 (([t272, t273] : List Int))).bind fun t277 => (if t277 = 0 then (kbo_Greater.l0 kj8 l0_1 (l0_1.length : Int) 0 a1_0 l1_1) else (some (decide (t277 > 0))))) = some r := H
            have A27 := Aside0.mk A270
            clear A270
            obtain ⟨y274, hy274⟩ : ∃ y_ : List Int, y_ = (([t272, t273] : List Int)) := ⟨_, rfl⟩
            replace H : ((cmp_Or_int.f kj8 y274).bind fun t277 => (if t277 = 0 then (kbo_Greater.l0 kj8 l0_1 (l0_1.length : Int) 0 a1_0 l1_1) else (some (decide (t277 > 0))))) = some r := by first | (rw [hy274]; with_reducible exact H) | (have H2_ := (Option.bind_some _ _).symm.trans H; rw [hy274]; with_reducible exact H2_) | (have H2_ := (Option.bind_some _ _).symm.trans H; with_reducible exact H2_) | with_reducible exact H | (rw [hy274]; exact H) | exact H
            have Ny274 := Aside0.mk hy274
            clear hy274
            replace H := Option.bind_eq_some_iff.mp H
            obtain ⟨t277, A280, H⟩ := H
            replace H : (if t277 = 0 then (kbo_Greater.l0 kj8 l0_1 (l0_1.length : Int) 0 a1_0 l1_1) else (some (decide (t277 > 0)))) = some r := H
            have A28 := Aside0.mk A280
            clear A280
            by_cases c29 : t277 = 0
            · rw [if_pos c29] at H
              have c29b0 : (t277 == 0) = true := beq_iff_eq.mpr c29
              have c29b1 : (t277 != 0) = false := bne_eq_false_iff_eq.mpr c29
              clear c29
              have H' := Aside0.mk H
              clear H
              try go_wp2
              have n0_ := Aside0.mk (blk_drew BK266.out)
              have n1_ := Aside0.mk (blk_drew BK267.out)
              have n2_ := Aside0.mk (below_drew1 HB.out)
              clear BK266
              clear BK267
              clear HB
              have BK266 := n0_
              have BK267 := n1_
              have HB := n2_
              clear n0_ n1_ n2_
              refine start_ (n := 15) (S := fun w' => w'.cell? ⟨gb266, 0, none⟩ = some (.int .i64 a0_0) ∧ w'.cell? ⟨gb266, 1, none⟩ = some (.slice A0_1 l0_1.length c0_1) ∧ w'.cell? ⟨gb267, 0, none⟩ = some (.int .i64 a1_0) ∧ w'.cell? ⟨gb267, 1, none⟩ = some (.slice A1_1 l1_1.length c1_1)) (ds := []) #[false, false, false, false, false, false, false, false, false, false, false, false, false, false, false] (by kernel_rfl) rfl rfl ⟨(blk_cell BK266.out 0).trans rfl, (blk_cell BK266.out 1).trans rfl, (blk_cell BK267.out 0).trans rfl, (blk_cell BK267.out 1).trans rfl⟩ (fun hHeld => ?_); refine with_tabW kbo_Greater.tab8 kbo_Greater.bits8 (fun HT_ HW_ => ?_)
              generalize wc.drew = w30 at BK266 BK267 HB hHeld ⊢
              refine pure_ (i := 0) (N := some 30) (v := ?_) (a' := ?_) #[true, false, false, false, false, false, false, false, false, false, false, false, false, false, false] rfl rfl (any_of HT_.out (by kernel_rfl)) (fun _ _ _ h => h) (Or.inl ⟨by rfl, ?_⟩) ?_ ?_
              rotate_left
              · intro w'
                go_simp
                with_reducible rfl
              rotate_left
              · simp only [Act.put, List.setIfInBounds_toArray, List.set_cons_zero, List.set_cons_succ, i64_w, i32_w]
                rfl
              refine pure_ (i := 2) (N := some 32) (v := ?_) (a' := ?_) #[true, false, true, false, false, false, false, false, false, false, false, false, false, false, false] rfl rfl (any_of HT_.out (by kernel_rfl)) (fun _ _ _ h => h) (Or.inl ⟨by rfl, ?_⟩) ?_ ?_
              rotate_left
              · intro w'
                go_simp
                with_reducible rfl
              rotate_left
              · simp only [Act.put, List.setIfInBounds_toArray, List.set_cons_zero, List.set_cons_succ, i64_w, i32_w]
                rfl
              refine pure_ (i := 5) (N := some 35) (v := ?_) (a' := ?_) #[true, false, true, false, false, true, false, false, false, false, false, false, false, false, false] rfl rfl (any_of HT_.out (by kernel_rfl)) (fun _ _ _ h => h) (Or.inl ⟨by rfl, ?_⟩) ?_ ?_
              rotate_left
              · intro w'
                go_simp
                with_reducible rfl
              rotate_left
              · simp only [Act.put, List.setIfInBounds_toArray, List.set_cons_zero, List.set_cons_succ, i64_w, i32_w]
                rfl
              refine pure_ (i := 8) (N := some 38) (v := ?_) (a' := ?_) #[true, false, true, false, false, true, false, false, true, false, false, false, false, false, false] rfl rfl (any_of HT_.out (by kernel_rfl)) (fun _ _ _ h => h) (Or.inl ⟨by rfl, ?_⟩) ?_ ?_
              rotate_left
              · intro w'
                go_simp
                with_reducible rfl
              rotate_left
              · simp only [Act.put, List.setIfInBounds_toArray, List.set_cons_zero, List.set_cons_succ, i64_w, i32_w]
                rfl
              refine take_ (i := 1) (N := some 31) (v := ?_) (a' := ?_) #[true, true, true, false, false, true, false, false, true, false, false, false, false, false, false] rfl rfl (take_ofW HT_.out HW_.out (by kernel_rfl)) (fun _ _ _ h => h) (Or.inl ⟨by rfl, ?_⟩) hHeld ?_ ?_
              rotate_left
              · rintro w' ⟨s0, s1, s2, s3⟩
                go_simp
                with_reducible rfl
              rotate_left
              · simp only [Act.put, List.setIfInBounds_toArray, List.set_cons_zero, List.set_cons_succ, i64_w, i32_w]
                rfl
              refine take_ (i := 3) (N := some 33) (v := ?_) (a' := ?_) #[true, true, true, true, false, true, false, false, true, false, false, false, false, false, false] rfl rfl (take_ofW HT_.out HW_.out (by kernel_rfl)) (fun _ _ _ h => h) (Or.inl ⟨by rfl, ?_⟩) hHeld ?_ ?_
              rotate_left
              · rintro w' ⟨s0, s1, s2, s3⟩
                go_simp
                with_reducible rfl
              rotate_left
              · simp only [Act.put, List.setIfInBounds_toArray, List.set_cons_zero, List.set_cons_succ, i64_w, i32_w]
                rfl
              refine take_ (i := 6) (N := some 36) (v := ?_) (a' := ?_) #[true, true, true, true, false, true, true, false, true, false, false, false, false, false, false] rfl rfl (take_ofW HT_.out HW_.out (by kernel_rfl)) (fun _ _ _ h => h) (Or.inl ⟨by rfl, ?_⟩) hHeld ?_ ?_
              rotate_left
              · rintro w' ⟨s0, s1, s2, s3⟩
                go_simp
                with_reducible rfl
              rotate_left
              · simp only [Act.put, List.setIfInBounds_toArray, List.set_cons_zero, List.set_cons_succ, i64_w, i32_w]
                rfl
              refine pure_ (i := 7) (N := some 37) (v := ?_) (a' := ?_) #[true, true, true, true, false, true, true, true, true, false, false, false, false, false, false] rfl rfl (any_of HT_.out (by kernel_rfl)) (fun _ _ _ h => h) (Or.inl ⟨by rfl, ?_⟩) ?_ ?_
              rotate_left
              · intro w'
                go_simp
                with_reducible rfl
              rotate_left
              · simp only [Act.put, List.setIfInBounds_toArray, List.set_cons_zero, List.set_cons_succ, i64_w, i32_w]
                rfl
              refine take_ (i := 9) (N := some 39) (v := ?_) (a' := ?_) #[true, true, true, true, false, true, true, true, true, true, false, false, false, false, false] rfl rfl (take_ofW HT_.out HW_.out (by kernel_rfl)) (fun _ _ _ h => h) (Or.inl ⟨by rfl, ?_⟩) hHeld ?_ ?_
              rotate_left
              · rintro w' ⟨s0, s1, s2, s3⟩
                go_simp
                with_reducible rfl
              rotate_left
              · simp only [Act.put, List.setIfInBounds_toArray, List.set_cons_zero, List.set_cons_succ, i64_w, i32_w]
                rfl
              refine pure_ (i := 10) (N := some 40) (v := ?_) (a' := ?_) #[true, true, true, true, false, true, true, true, true, true, true, false, false, false, false] rfl rfl (any_of HT_.out (by kernel_rfl)) (fun _ _ _ h => h) (Or.inl ⟨by rfl, ?_⟩) ?_ ?_
              rotate_left
              · intro w'
                go_simp
                with_reducible rfl
              rotate_left
              · simp only [Act.put, List.setIfInBounds_toArray, List.set_cons_zero, List.set_cons_succ, i64_w, i32_w]
                rfl
              refine one_ (i := 4) (N := some 34) #[true, true, true, true, true, true, true, true, true, true, true, false, false, false, false] rfl rfl (one_of HT_.out (by kernel_rfl)) (by decide) (fun K hK => ?_)
              refine goes_ Try.func76 (by kernel_rfl) rfl #[.int .i64 a0_0, .int .i64 a1_0] (by rfl) rfl rfl (by (try simp only [List.map_toArray, List.map_cons, List.map_nil]); first | done | rfl | (simp only [List.length_drop, List.length_take]; rfl)) ?_
              with_reducible refine (cmp_Compare_int.calls a0_0 a1_0 t272 _ A26.out).mono ?_
              rintro e w' ⟨rfl, ⟨nd, rfl⟩⟩
              refine ⟨_, rfl, ?_⟩
              refine hK.out _ _ ⟨(blk_cell BK266.out 0).trans rfl, (blk_cell BK266.out 1).trans rfl, (blk_cell BK267.out 0).trans rfl, (blk_cell BK267.out 1).trans rfl⟩ (fun hHeld => ?_)
              clear hK K
              refine norm_ (a' := ?_) ?_ ?_
              rotate_left
              · show Act.put _ (some 34) _ = _
                simp only [Act.put, List.setIfInBounds_toArray, List.set_cons_zero, List.set_cons_succ, i64_w, i32_w]
                rfl
              refine one_ (i := 11) (N := some 41) #[true, true, true, true, true, true, true, true, true, true, true, true, false, false, false] rfl rfl (one_of HT_.out (by kernel_rfl)) (by decide) (fun K hK => ?_)
              refine goes_ Try.func76 (by kernel_rfl) rfl #[.int .i64 (l0_1.length : Int), .int .i64 (l1_1.length : Int)] (by rfl) rfl rfl (by (try simp only [List.map_toArray, List.map_cons, List.map_nil]); first | done | rfl | (simp only [List.length_drop, List.length_take]; rfl)) ?_
              with_reducible refine (cmp_Compare_int.calls (l0_1.length : Int) (l1_1.length : Int) t273 _ A27.out).mono ?_
              rintro e w' ⟨rfl, ⟨nd, rfl⟩⟩
              refine ⟨_, rfl, ?_⟩
              refine hK.out _ _ ⟨(blk_cell BK266.out 0).trans rfl, (blk_cell BK266.out 1).trans rfl, (blk_cell BK267.out 0).trans rfl, (blk_cell BK267.out 1).trans rfl⟩ (fun hHeld => ?_)
              clear hK K
              refine norm_ (a' := ?_) ?_ ?_
              rotate_left
              · show Act.put _ (some 41) _ = _
                simp only [Act.put, List.setIfInBounds_toArray, List.set_cons_zero, List.set_cons_succ, i64_w, i32_w]
                rfl
              refine one_ (i := 12) (N := some 42) #[true, true, true, true, true, true, true, true, true, true, true, true, true, false, false] rfl rfl (one_of HT_.out (by kernel_rfl)) (by decide) (fun K hK => ?_)
              refine Kd.R_lit_step (Kd.int .i64) _ 3 ?hg (N := 42) ?hd (xs := ([t272, t273] : List Int)) (inner := [.int .i64 t272, .int .i64 t273]) (ok := fun _ => True) (okp := fun _ => True) ?hr ?hp (fun _ hk => hk) trivial (Below.refl _ _) (Nat.le_refl _) (by simp) ?_; (case hd => rfl); (case hg => rfl); (case hr => first | (go_simp; done) | (go_simp; rfl)); (case hp => exact (Reps.one (show Kd.M (Kd.int .i64) _ _ _ t272 [.int .i64 t272] from rfl) (Reps.one (show Kd.M (Kd.int .i64) _ _ _ t273 [.int .i64 t273] from rfl) (Reps.none _ _))))
              intro v275 w31 ho32 hb hg_ hnew_
              clear hg_ hnew_
              (first | rw [← Ny274.out] at ho32 | (simp only [Int.reduceToNat] at ho32; rw [← Ny274.out] at ho32))
              have n0_ := Aside0.mk (Kd.R_lower ho32 (below_size (by repeat (first | (with_reducible first | exact HB.out | apply below_alloc | apply pw_below_drewN | apply below_drew1 | refine below_set ?_ GE266.out | refine below_set ?_ GE267.out) | exact HB.out))))
              have n1_ := Aside0.mk (blk_below (g := gb266) (o := .cells #[.int .i64 a0_0, .slice A0_1 l0_1.length c0_1] 30 (0, 0)) (by (with_reducible repeat (first | refine blk_drewN ?_ _ | refine blk_drew ?_ | refine blk_alloc ?_ _)); exact BK266.out) hb)
              have n2_ := Aside0.mk (blk_below (g := gb267) (o := .cells #[.int .i64 a1_0, .slice A1_1 l1_1.length c1_1] 30 (0, 0)) (by (with_reducible repeat (first | refine blk_drewN ?_ _ | refine blk_drew ?_ | refine blk_alloc ?_ _)); exact BK267.out) hb)
              have n3_ := Aside0.mk (below_step (by repeat (first | (with_reducible first | exact HB.out | apply below_alloc | apply pw_below_drewN | apply below_drew1 | refine below_set ?_ GE266.out | refine below_set ?_ GE267.out) | exact HB.out)) hb)
              clear BK266
              clear BK267
              clear HB
              have HO276 := n0_
              have BK266 := n1_
              have BK267 := n2_
              have HB := n3_
              clear n0_ n1_ n2_ n3_
              clear hb ho32
              obtain ⟨Ao33, co33, eo33⟩ := Kd.R_slice HO276.out
              (first | subst eo33 | (injection eo33 with f1_ f2_ f3_; have f4_ := f1_.symm; have f5_ := f3_.symm; clear f1_ f2_ f3_; subst f4_; subst f5_))
              refine hK.out _ _ ⟨(blk_cell BK266.out 0).trans rfl, (blk_cell BK266.out 1).trans rfl, (blk_cell BK267.out 0).trans rfl, (blk_cell BK267.out 1).trans rfl⟩ (fun hHeld => ?_)
              clear hK K
              refine norm_ (a' := ?_) ?_ ?_
              rotate_left
              · show Act.put _ (some 42) _ = _
                simp only [Act.put, List.setIfInBounds_toArray, List.set_cons_zero, List.set_cons_succ, i64_w, i32_w]
                rfl
              refine one_ (i := 13) (N := some 43) #[true, true, true, true, true, true, true, true, true, true, true, true, true, true, false] rfl rfl (one_of HT_.out (by kernel_rfl)) (by decide) (fun K hK => ?_)
              refine goes_ Try.func77 (by kernel_rfl) rfl #[.slice Ao33 y274.length co33] (by rfl) rfl rfl (by (try simp only [List.map_toArray, List.map_cons, List.map_nil]); first | done | rfl | (simp only [List.length_drop, List.length_take]; rfl)) ?_
              with_reducible refine (cmp_Or_int.calls kj8 _ _ y274 t277 _ ?side1 ?side2 A28.out).mono ?_
              (case side1 => repeat (first | exact (Kd.R_reads' HO276.out).2.2 | (with_reducible refine Kd.C_alloc ?_ _) | (with_reducible refine Kd.C_drewN ?_ _) | (with_reducible refine Kd.C_drew ?_)))
              (case side2 => exact (Kd.R_reads' HO276.out).2.1)
              rintro e w' ⟨rfl, ⟨nd, rfl⟩⟩
              refine ⟨_, rfl, ?_⟩
              refine hK.out _ _ ⟨(blk_cell BK266.out 0).trans rfl, (blk_cell BK266.out 1).trans rfl, (blk_cell BK267.out 0).trans rfl, (blk_cell BK267.out 1).trans rfl⟩ (fun hHeld => ?_)
              clear hK K
              refine norm_ (a' := ?_) ?_ ?_
              rotate_left
              · show Act.put _ (some 43) _ = _
                simp only [Act.put, List.setIfInBounds_toArray, List.set_cons_zero, List.set_cons_succ, i64_w, i32_w]
                rfl
              refine pure_ (i := 14) (N := some 6) (v := ?_) (a' := ?_) #[true, true, true, true, true, true, true, true, true, true, true, true, true, true, true] rfl rfl (any_of HT_.out (by kernel_rfl)) (fun _ _ _ h => h) (Or.inl ⟨by rfl, ?_⟩) ?_ ?_
              rotate_left
              · intro w'
                go_simp
                with_reducible rfl
              rotate_left
              · simp only [Act.put, List.setIfInBounds_toArray, List.set_cons_zero, List.set_cons_succ, i64_w, i32_w]
                rfl
              refine done_ (done_of HT_.out (by kernel_rfl)) ?_
              have hnb34 := NB266_267.out
              have hnc34 := NB267_266.out
              have hcz35_0 : w31.cell? ⟨gb266, 0, none⟩ = some (.int .i64 a0_0) := (blk_cell BK266.out 0).trans rfl
              have hcz35_1 : w31.cell? ⟨gb266, 1, none⟩ = some (.slice A0_1 l0_1.length c0_1) := (blk_cell BK266.out 1).trans rfl
              have hfz35_0 := blk_frozen BK266.out 0
              have hfz35_1 := blk_frozen BK266.out 1
              try go_wp2
              go_loopg [51] kj8 (fun kq v51 w' => ∃ (x51_2 : Int), v51 = .int .i64 x51_2 ∧ Aside0 (kbo_Greater.l0 kq l0_1 (l0_1.length : Int) x51_2 a1_0 l1_1 = some r) ∧ Aside0 (kq ≤ kj8) ∧ Aside0 (w'.heap[gb266]? = some (.cells #[.int .i64 a0_0, (.slice A0_1 l0_1.length c0_1)] 30 (0, 0))) ∧ Aside0 (w'.heap[gb267]? = some (.cells #[.int .i64 a1_0, (.slice A1_1 l1_1.length c1_1)] 30 (0, 0))) ∧ Aside0 (Below w.heap.size w w'))
              case atStart => exact ⟨(0), (by first | rfl | (simp; done) | (simp [*]; done)), H', ⟨Nat.le_refl _⟩, ⟨by (with_reducible repeat (first | refine blk_drewN ?_ _ | refine blk_drew ?_ | refine blk_alloc ?_ _)); exact BK266.out⟩, ⟨by (with_reducible repeat (first | refine blk_drewN ?_ _ | refine blk_drew ?_ | refine blk_alloc ?_ _)); exact BK267.out⟩, ⟨by repeat (first | (with_reducible first | exact HB.out | apply below_alloc | apply pw_below_drewN | apply below_drew1 | refine below_set ?_ GE266.out | refine below_set ?_ GE267.out) | exact HB.out)⟩⟩
              case round =>
                clear H'
                try clear c1
                try clear c2
                try clear p2
                try clear c3
                try clear c4
                try clear c7
                try clear c8
                try clear c8b0
                try clear c8b1
                try clear c12
                try clear c19
                try clear c19b0
                try clear c20
                try clear c22
                try clear c25
                try clear c29
                try clear c29b0
                try clear c29b1
                try clear c34
                try clear hcz13_0
                try clear hcz13_1
                try clear hcz14_0
                try clear hcz14_1
                try clear hcz21_0
                try clear hcz21_1
                try clear hcz23_0
                try clear hcz23_1
                try clear hcz24_0
                try clear hcz24_1
                try clear hcz35_0
                try clear hcz35_1
                try clear hfz13_0
                try clear hfz13_1
                try clear hfz14_0
                try clear hfz14_1
                try clear hfz21_0
                try clear hfz21_1
                try clear hfz23_0
                try clear hfz23_1
                try clear hfz24_0
                try clear hfz24_1
                try clear hfz35_0
                try clear hfz35_1
                try clear p2
                obtain ⟨x51_2, rfl, HA, HK2, BK266, BK267, HB⟩ := hrel
                cases gk with
                | zero => exact absurd HA.out (by simp [kbo_Greater.l0])
                | succ k2 =>
                  have H := HA.out
                  clear HA
                  simp only [kbo_Greater.l0] at H
                  by_cases c36 : x51_2 < (l0_1.length : Int)
                  · rw [if_pos c36] at H
                    have c36b0 : decide (x51_2 < (l0_1.length : Int)) = true := decide_eq_true c36
                    clear c36
                    by_cases c37 : 0 ≤ x51_2
                    · rw [if_pos c37] at H
                      have c37b0 : decide (0 ≤ x51_2) = true := decide_eq_true c37
                      clear c37
                      by_cases c38 : x51_2 < (l0_1.length : Int)
                      · rw [if_pos c38] at H
                        have c38b0 : decide (x51_2 < (l0_1.length : Int)) = true := decide_eq_true c38
                        clear c38
                        by_cases c39 : x51_2 < (l1_1.length : Int)
                        · rw [if_pos c39] at H
                          have c39b0 : decide (x51_2 < (l1_1.length : Int)) = true := decide_eq_true c39
                          clear c39
                          replace H := Option.bind_eq_some_iff.mp H
                          obtain ⟨t281, A400, H⟩ := H
                          replace H : (if t281 = true then (kbo_Greater.l0 k2 l0_1 (l0_1.length : Int) (wrap64 (x51_2 + 1)) a1_0 l1_1) else ((kbo_Greater.f k2 ((rd_T30 l0_1 x51_2).f0) ((rd_T30 l0_1 x51_2).f1) ((rd_T30 l1_1 x51_2).f0) ((rd_T30 l1_1 x51_2).f1)).bind fun t283 => (some t283))) = some r := H
                          have A40 := Aside0.mk A400
                          clear A400
                          by_cases c41 : t281 = true
                          · subst c41
                            have H1 : (kbo_Greater.l0 k2 l0_1 (l0_1.length : Int) (wrap64 (x51_2 + 1)) a1_0 l1_1) = some r := by rw [if_pos rfl] at H; exact H
                            clear H
                            have H := H1
                            clear H1
                            have H' := Aside0.mk H
                            clear H
                            have p278 : 0 ≤ (x51_2 : Int) := of_decide_eq_true (by first | (with_reducible assumption) | assumption)
                            have q278 : x51_2 < (l0_1.length : Int) := of_decide_eq_true (by first | (with_reducible assumption) | assumption)
                            obtain ⟨ad278, A278_1, c278_1, e278, hx278_0, hx278_1, hl278_1, hi278_1⟩ := at_T30 HR0_1.out x51_2 p278 q278
                            cases e278
                            replace hx278_0 := (HB.out.cell (World.block_lt_of_cell? w _ hx278_0)).trans hx278_0
                            replace hx278_1 := (HB.out.cell (World.block_lt_of_cell? w _ hx278_1)).trans hx278_1
                            have HR278_1 := Aside0.mk hi278_1
                            have HC278_1 := Aside0.mk hl278_1
                            clear hi278_1 hl278_1
                            replace p278 := eq_true p278
                            replace q278 := eq_true q278
                            try go_wp2_with (first | ((with_reducible refine gate_dst (N := 8) rfl ?_); refine box_event ?hg (N := 8) ?hd (cs := #[.int .i64 0, .slice none 0 0]) (t := 30) ?hr ?_; (case hd => rfl); (case hg => rfl); (case hr => first | (go_simp; done) | (go_simp; rfl)); intro gb279 hg w42 hbox hb; have n0_ := Aside0.mk (blk_below (g := gb266) (o := .cells #[.int .i64 a0_0, .slice (some ad278) l0_1.length c0_1] 30 (0, 0)) (by (with_reducible repeat (first | refine blk_drewN ?_ _ | refine blk_drew ?_ | refine blk_alloc ?_ _)); exact BK266.out) hb); have n1_ := Aside0.mk (blk_below (g := gb267) (o := .cells #[.int .i64 a1_0, .slice A1_1 l1_1.length c1_1] 30 (0, 0)) (by (with_reducible repeat (first | refine blk_drewN ?_ _ | refine blk_drew ?_ | refine blk_alloc ?_ _)); exact BK267.out) hb); have n2_ := Aside0.mk (below_step (by repeat (first | (with_reducible first | exact HB.out | apply below_alloc | apply pw_below_drewN | apply below_drew1 | refine below_set ?_ GE266.out | refine below_set ?_ GE267.out) | exact HB.out)) hb); have n3_ := Aside0.mk (hbox); have n4_ := Aside0.mk ((by rw [hg]; exact (below_size (by repeat (first | (with_reducible first | exact HB.out | apply below_alloc | apply pw_below_drewN | apply below_drew1 | refine below_set ?_ GE266.out | refine below_set ?_ GE267.out) | exact HB.out))) : w.heap.size ≤ gb279)); have n5_ := Aside0.mk ((by rw [hg]; exact (below_size (by repeat (first | (with_reducible first | exact HB.out | apply below_alloc | apply pw_below_drewN | apply below_drew1 | refine below_set ?_ GE266.out | refine below_set ?_ GE267.out) | exact HB.out))) : w.heap.size ≤ gb279)); have n6_ := Aside0.mk ((by rw [hg]; exact Nat.ne_of_lt (blk_lt (g := gb266) (o := .cells #[.int .i64 a0_0, .slice (some ad278) l0_1.length c0_1] 30 (0, 0)) (by (with_reducible repeat (first | refine blk_drewN ?_ _ | refine blk_drew ?_ | refine blk_alloc ?_ _)); exact BK266.out)) : gb266 ≠ gb279)); have n7_ := Aside0.mk ((by rw [hg]; exact Nat.ne_of_gt (blk_lt (g := gb266) (o := .cells #[.int .i64 a0_0, .slice (some ad278) l0_1.length c0_1] 30 (0, 0)) (by (with_reducible repeat (first | refine blk_drewN ?_ _ | refine blk_drew ?_ | refine blk_alloc ?_ _)); exact BK266.out)) : gb279 ≠ gb266)); have n8_ := Aside0.mk ((by rw [hg]; exact Nat.ne_of_lt (blk_lt (g := gb267) (o := .cells #[.int .i64 a1_0, .slice A1_1 l1_1.length c1_1] 30 (0, 0)) (by (with_reducible repeat (first | refine blk_drewN ?_ _ | refine blk_drew ?_ | refine blk_alloc ?_ _)); exact BK267.out)) : gb267 ≠ gb279)); have n9_ := Aside0.mk ((by rw [hg]; exact Nat.ne_of_gt (blk_lt (g := gb267) (o := .cells #[.int .i64 a1_0, .slice A1_1 l1_1.length c1_1] 30 (0, 0)) (by (with_reducible repeat (first | refine blk_drewN ?_ _ | refine blk_drew ?_ | refine blk_alloc ?_ _)); exact BK267.out)) : gb279 ≠ gb267)); clear BK266; clear BK267; clear HB; have BK266 := n0_; have BK267 := n1_; have HB := n2_; have BK279 := n3_; have GW279 := n4_; have GE279 := n5_; have NB266_279 := n6_; have NB279_266 := n7_; have NB267_279 := n8_; have NB279_267 := n9_; clear n0_ n1_ n2_ n3_ n4_ n5_ n6_ n7_ n8_ n9_; clear hb hbox hg; have hnb43 := NB279_266.out; have hnc43 := NB266_279.out; have hnb44 := NB279_267.out; have hnc44 := NB267_279.out; have hcz45_0 : w42.cell? ⟨gb279, 0, none⟩ = some (.int .i64 0) := (blk_cell BK279.out 0).trans rfl; have hcz45_1 : w42.cell? ⟨gb279, 1, none⟩ = some (.slice none 0 0) := (blk_cell BK279.out 1).trans rfl; have hfz45_0 := blk_frozen BK279.out 0; have hfz45_1 := blk_frozen BK279.out 1))
                            have n0_ : Aside0 (((w42.setCell ⟨gb279, 0, none⟩ (.int .i64 ((rd_T30 l0_1 x51_2).f0))).setCell ⟨gb279, 1, none⟩ (.slice A278_1 ((rd_T30 l0_1 x51_2).f1).length c278_1)).heap[gb266]? = some (.cells #[.int .i64 a0_0, .slice (some ad278) l0_1.length c0_1] 30 (0, 0))) := ⟨by (with_reducible repeat (first | refine blk_drewN ?_ _ | refine blk_drew ?_ | refine blk_alloc ?_ _)); refine blk_far ?_ NB266_279.out _; (with_reducible repeat (first | refine blk_drewN ?_ _ | refine blk_drew ?_ | refine blk_alloc ?_ _)); refine blk_far ?_ NB266_279.out _; (with_reducible repeat (first | refine blk_drewN ?_ _ | refine blk_drew ?_ | refine blk_alloc ?_ _)); exact BK266.out⟩
                            have n1_ : Aside0 (((w42.setCell ⟨gb279, 0, none⟩ (.int .i64 ((rd_T30 l0_1 x51_2).f0))).setCell ⟨gb279, 1, none⟩ (.slice A278_1 ((rd_T30 l0_1 x51_2).f1).length c278_1)).heap[gb267]? = some (.cells #[.int .i64 a1_0, .slice A1_1 l1_1.length c1_1] 30 (0, 0))) := ⟨by (with_reducible repeat (first | refine blk_drewN ?_ _ | refine blk_drew ?_ | refine blk_alloc ?_ _)); refine blk_far ?_ NB267_279.out _; (with_reducible repeat (first | refine blk_drewN ?_ _ | refine blk_drew ?_ | refine blk_alloc ?_ _)); refine blk_far ?_ NB267_279.out _; (with_reducible repeat (first | refine blk_drewN ?_ _ | refine blk_drew ?_ | refine blk_alloc ?_ _)); exact BK267.out⟩
                            have n2_ : Aside0 (((w42.setCell ⟨gb279, 0, none⟩ (.int .i64 ((rd_T30 l0_1 x51_2).f0))).setCell ⟨gb279, 1, none⟩ (.slice A278_1 ((rd_T30 l0_1 x51_2).f1).length c278_1)).heap[gb279]? = some (.cells #[.int .i64 ((rd_T30 l0_1 x51_2).f0), .slice A278_1 ((rd_T30 l0_1 x51_2).f1).length c278_1] 30 (0, 0))) := ⟨by (with_reducible repeat (first | refine blk_drewN ?_ _ | refine blk_drew ?_ | refine blk_alloc ?_ _)); refine blk_put (cs := #[.int .i64 ((rd_T30 l0_1 x51_2).f0), .slice none 0 0]) ?_ 1 _ rfl; (with_reducible repeat (first | refine blk_drewN ?_ _ | refine blk_drew ?_ | refine blk_alloc ?_ _)); refine blk_put (cs := #[.int .i64 0, .slice none 0 0]) ?_ 0 _ rfl; (with_reducible repeat (first | refine blk_drewN ?_ _ | refine blk_drew ?_ | refine blk_alloc ?_ _)); exact BK279.out⟩
                            have n3_ : Aside0 (Below w.heap.size w ((w42.setCell ⟨gb279, 0, none⟩ (.int .i64 ((rd_T30 l0_1 x51_2).f0))).setCell ⟨gb279, 1, none⟩ (.slice A278_1 ((rd_T30 l0_1 x51_2).f1).length c278_1))) := ⟨by repeat (first | (with_reducible first | exact HB.out | apply below_alloc | apply pw_below_drewN | apply below_drew1 | refine below_set ?_ GE266.out | refine below_set ?_ GE267.out | refine below_set ?_ GE279.out) | exact HB.out)⟩
                            (try clear BK266)
                            (try clear BK267)
                            (try clear BK279)
                            (try clear HB)
                            generalize ((w42.setCell ⟨gb279, 0, none⟩ (.int .i64 ((rd_T30 l0_1 x51_2).f0))).setCell ⟨gb279, 1, none⟩ (.slice A278_1 ((rd_T30 l0_1 x51_2).f1).length c278_1)) = w46 at n0_ n1_ n2_ n3_ ⊢
                            have BK266 := n0_
                            have BK267 := n1_
                            have BK279 := n2_
                            have HB := n3_
                            clear n0_ n1_ n2_ n3_
                            have n0_ := Aside0.mk (blk_drew BK266.out)
                            have n1_ := Aside0.mk (blk_drew BK267.out)
                            have n2_ := Aside0.mk (blk_drew BK279.out)
                            have n3_ := Aside0.mk (below_drew1 HB.out)
                            clear BK266
                            clear BK267
                            clear BK279
                            clear HB
                            have BK266 := n0_
                            have BK267 := n1_
                            have BK279 := n2_
                            have HB := n3_
                            clear n0_ n1_ n2_ n3_
                            have p280 : 0 ≤ (x51_2 : Int) := of_decide_eq_true (by first | (with_reducible assumption) | assumption)
                            have q280 : x51_2 < (l1_1.length : Int) := of_decide_eq_true (by first | (with_reducible assumption) | assumption)
                            obtain ⟨ad280, A280_1, c280_1, e280, hx280_0, hx280_1, hl280_1, hi280_1⟩ := at_T30 HR1_1.out x51_2 p280 q280
                            have hw280_1 := hx280_1
                            have hw280_0 := hx280_0
                            cases e280
                            replace hx280_0 := (HB.out.cell (World.block_lt_of_cell? w _ hx280_0)).trans hx280_0
                            replace hx280_1 := (HB.out.cell (World.block_lt_of_cell? w _ hx280_1)).trans hx280_1
                            have HR280_1 := Aside0.mk hi280_1
                            have HC280_1 := Aside0.mk hl280_1
                            clear hi280_1 hl280_1
                            replace p280 := eq_true p280
                            replace q280 := eq_true q280
                            refine start_ (n := 8) (S := fun w' => w'.cell? ⟨gb279, 0, none⟩ = some (.int .i64 ((rd_T30 l0_1 x51_2).f0)) ∧ w'.cell? ⟨gb279, 1, none⟩ = some (.slice A278_1 ((rd_T30 l0_1 x51_2).f1).length c278_1) ∧ w'.cell? ⟨gb267, 0, none⟩ = some (.int .i64 a1_0) ∧ w'.cell? ⟨gb267, 1, none⟩ = some (.slice (some ad280) l1_1.length c1_1) ∧ w'.cell? (ad280.add ((x51_2).toNat * 2)) = some (.int .i64 ((rd_T30 l1_1 x51_2).f0)) ∧ w'.cell? ⟨(ad280.add ((x51_2).toNat * 2)).block, (ad280.add ((x51_2).toNat * 2)).off + 1, none⟩ = some (.slice A280_1 ((rd_T30 l1_1 x51_2).f1).length c280_1)) (ds := []) #[false, false, false, false, false, false, false, false] (by kernel_rfl) rfl rfl ⟨(blk_cell BK279.out 0).trans rfl, (blk_cell BK279.out 1).trans rfl, (blk_cell BK267.out 0).trans rfl, (blk_cell BK267.out 1).trans rfl, ((HB.out.cell (World.block_lt_of_cell? w _ hw280_0)).trans hw280_0), ((HB.out.cell (World.block_lt_of_cell? w _ hw280_1)).trans hw280_1)⟩ (fun hHeld => ?_); refine with_tabW kbo_Greater.tab14 kbo_Greater.bits14 (fun HT_ HW_ => ?_)
                            generalize w46.drew = w47 at BK266 BK267 BK279 HB HR280_1 hx280_0 hx280_1 hHeld ⊢
                            refine pure_ (i := 1) (N := some 57) (v := ?_) (a' := ?_) #[false, true, false, false, false, false, false, false] rfl rfl (any_of HT_.out (by kernel_rfl)) (fun _ _ _ h => h) (Or.inl ⟨by rfl, ?_⟩) ?_ ?_
                            rotate_left
                            · intro w'
                              go_simp
                              with_reducible rfl
                            rotate_left
                            · simp only [Act.put, List.setIfInBounds_toArray, List.set_cons_zero, List.set_cons_succ, i64_w, i32_w]
                              rfl
                            refine pure_ (i := 3) (N := some 59) (v := ?_) (a' := ?_) #[false, true, false, true, false, false, false, false] rfl rfl (any_of HT_.out (by kernel_rfl)) (fun _ _ _ h => h) (Or.inl ⟨by rfl, ?_⟩) ?_ ?_
                            rotate_left
                            · intro w'
                              go_simp
                              with_reducible rfl
                            rotate_left
                            · simp only [Act.put, List.setIfInBounds_toArray, List.set_cons_zero, List.set_cons_succ, i64_w, i32_w]
                              rfl
                            refine take_ (i := 0) (N := some 56) (v := ?_) (a' := ?_) #[true, true, false, true, false, false, false, false] rfl rfl (take_ofW HT_.out HW_.out (by kernel_rfl)) (fun _ _ _ h => h) (Or.inl ⟨by rfl, ?_⟩) hHeld ?_ ?_
                            rotate_left
                            · rintro w' ⟨s0, s1, s2, s3, s4, s5⟩
                              go_simp
                              with_reducible rfl
                            rotate_left
                            · simp only [Act.put, List.setIfInBounds_toArray, List.set_cons_zero, List.set_cons_succ, i64_w, i32_w]
                              rfl
                            refine take_ (i := 2) (N := some 58) (v := ?_) (a' := ?_) #[true, true, true, true, false, false, false, false] rfl rfl (take_ofW HT_.out HW_.out (by kernel_rfl)) (fun _ _ _ h => h) (Or.inl ⟨by rfl, ?_⟩) hHeld ?_ ?_
                            rotate_left
                            · rintro w' ⟨s0, s1, s2, s3, s4, s5⟩
                              go_simp
                              with_reducible rfl
                            rotate_left
                            · simp only [Act.put, List.setIfInBounds_toArray, List.set_cons_zero, List.set_cons_succ, i64_w, i32_w]
                              rfl
                            refine pure_ (i := 4) (N := some 60) (v := ?_) (a' := ?_) #[true, true, true, true, true, false, false, false] rfl rfl (any_of HT_.out (by kernel_rfl)) (fun _ _ _ h => h) (Or.inl ⟨by rfl, ?_⟩) ?_ ?_
                            rotate_left
                            · intro w'
                              go_simp
                              with_reducible rfl
                            rotate_left
                            · simp only [Act.put, List.setIfInBounds_toArray, List.set_cons_zero, List.set_cons_succ, i64_w, i32_w]
                              rfl
                            refine take_ (i := 5) (N := some 61) (v := ?_) (a' := ?_) #[true, true, true, true, true, true, false, false] rfl rfl (take_ofW HT_.out HW_.out (by kernel_rfl)) (fun _ _ _ h => h) (Or.inl ⟨by rfl, ?_⟩) hHeld ?_ ?_
                            rotate_left
                            · rintro w' ⟨s0, s1, s2, s3, s4, s5⟩
                              go_simp
                              with_reducible rfl
                            rotate_left
                            · simp only [Act.put, List.setIfInBounds_toArray, List.set_cons_zero, List.set_cons_succ, i64_w, i32_w]
                              rfl
                            refine one_ (i := 6) (N := some 62) #[true, true, true, true, true, true, true, false] rfl rfl (one_of HT_.out (by kernel_rfl)) (by decide) (fun K hK => ?_)
                            refine goes_ Try.func37 (by kernel_rfl) rfl #[.agg #[.int .i64 ((rd_T30 l0_1 x51_2).f0), .slice A278_1 ((rd_T30 l0_1 x51_2).f1).length c278_1], .agg #[.int .i64 ((rd_T30 l1_1 x51_2).f0), .slice A280_1 ((rd_T30 l1_1 x51_2).f1).length c280_1]] (by rfl) rfl rfl (by (try simp only [List.map_toArray, List.map_cons, List.map_nil]); first | done | rfl | (simp only [List.length_drop, List.length_take]; rfl)) ?_
                            with_reducible refine (term_Same.calls ((rd_T30 l0_1 x51_2).f0) _ _ ((rd_T30 l0_1 x51_2).f1) ((rd_T30 l1_1 x51_2).f0) _ _ ((rd_T30 l1_1 x51_2).f1) true _ ?side1 ?side2 ?side3 ?side4 A40.out).mono ?_
                            (case side1 => repeat (first | exact (Kd.C_below HR278_1.out HB.out) | (with_reducible refine Kd.C_alloc ?_ _) | (with_reducible refine Kd.C_drewN ?_ _) | (with_reducible refine Kd.C_drew ?_)))
                            (case side2 => exact HC278_1.out)
                            (case side3 => repeat (first | exact (Kd.C_below HR280_1.out HB.out) | (with_reducible refine Kd.C_alloc ?_ _) | (with_reducible refine Kd.C_drewN ?_ _) | (with_reducible refine Kd.C_drew ?_)))
                            (case side4 => exact HC280_1.out)
                            rintro e w48 ⟨rfl, hb⟩
                            refine ⟨_, rfl, ?_⟩
                            have n0_ := Aside0.mk (blk_below (g := gb266) (o := .cells #[.int .i64 a0_0, .slice (some ad278) l0_1.length c0_1] 30 (0, 0)) (by (with_reducible repeat (first | refine blk_drewN ?_ _ | refine blk_drew ?_ | refine blk_alloc ?_ _)); exact BK266.out) hb)
                            have n1_ := Aside0.mk (blk_below (g := gb267) (o := .cells #[.int .i64 a1_0, .slice (some ad280) l1_1.length c1_1] 30 (0, 0)) (by (with_reducible repeat (first | refine blk_drewN ?_ _ | refine blk_drew ?_ | refine blk_alloc ?_ _)); exact BK267.out) hb)
                            have n2_ := Aside0.mk (blk_below (g := gb279) (o := .cells #[.int .i64 ((rd_T30 l0_1 x51_2).f0), .slice A278_1 ((rd_T30 l0_1 x51_2).f1).length c278_1] 30 (0, 0)) (by (with_reducible repeat (first | refine blk_drewN ?_ _ | refine blk_drew ?_ | refine blk_alloc ?_ _)); exact BK279.out) hb)
                            have n3_ := Aside0.mk (below_step (by repeat (first | (with_reducible first | exact HB.out | apply below_alloc | apply pw_below_drewN | apply below_drew1 | refine below_set ?_ GE266.out | refine below_set ?_ GE267.out | refine below_set ?_ GE279.out) | exact HB.out)) hb)
                            clear BK266
                            clear BK267
                            clear BK279
                            clear HB
                            have BK266 := n0_
                            have BK267 := n1_
                            have BK279 := n2_
                            have HB := n3_
                            clear n0_ n1_ n2_ n3_
                            (try clear hb)
                            (try clear hb2)
                            (try clear hk)
                            (try clear hi)
                            refine hK.out _ _ ⟨(blk_cell BK279.out 0).trans rfl, (blk_cell BK279.out 1).trans rfl, (blk_cell BK267.out 0).trans rfl, (blk_cell BK267.out 1).trans rfl, ((HB.out.cell (World.block_lt_of_cell? w _ hw280_0)).trans hw280_0), ((HB.out.cell (World.block_lt_of_cell? w _ hw280_1)).trans hw280_1)⟩ (fun hHeld => ?_)
                            clear hK K
                            refine norm_ (a' := ?_) ?_ ?_
                            rotate_left
                            · show Act.put _ (some 62) _ = _
                              simp only [Act.put, List.setIfInBounds_toArray, List.set_cons_zero, List.set_cons_succ, i64_w, i32_w]
                              rfl
                            refine pure_ (i := 7) (N := some 63) (v := ?_) (a' := ?_) #[true, true, true, true, true, true, true, true] rfl rfl (any_of HT_.out (by kernel_rfl)) (fun _ _ _ h => h) (Or.inl ⟨by rfl, ?_⟩) ?_ ?_
                            rotate_left
                            · intro w'
                              go_simp
                              with_reducible rfl
                            rotate_left
                            · simp only [Act.put, List.setIfInBounds_toArray, List.set_cons_zero, List.set_cons_succ, i64_w, i32_w]
                              rfl
                            refine done_ (done_of HT_.out (by kernel_rfl)) ?_
                            try go_wp2
                            go_roundg k2
                            case measure => have := HJ8.out; have := HK2.out; omega
                            case rel => exact ⟨(wrap64 (x51_2 + 1)), (by first | rfl | (simp; done) | (simp [*]; done)), H', ⟨by have := HJ8.out; have := HK2.out; omega⟩, ⟨by (with_reducible repeat (first | refine blk_drewN ?_ _ | refine blk_drew ?_ | refine blk_alloc ?_ _)); exact BK266.out⟩, ⟨by (with_reducible repeat (first | refine blk_drewN ?_ _ | refine blk_drew ?_ | refine blk_alloc ?_ _)); exact BK267.out⟩, ⟨by repeat (first | (with_reducible first | exact HB.out | apply below_alloc | apply pw_below_drewN | apply below_drew1 | refine below_set ?_ GE266.out | refine below_set ?_ GE267.out | refine below_set ?_ GE279.out) | exact HB.out)⟩⟩
                          · replace c41 := Bool.eq_false_iff.mpr c41
                            subst c41
                            have H1 : ((kbo_Greater.f k2 ((rd_T30 l0_1 x51_2).f0) ((rd_T30 l0_1 x51_2).f1) ((rd_T30 l1_1 x51_2).f0) ((rd_T30 l1_1 x51_2).f1)).bind fun t283 => (some t283)) = some r := by rw [if_neg (show ¬ (false = true) by decide)] at H; exact H
                            clear H
                            have H := H1
                            clear H1
                            replace H := Option.bind_eq_some_iff.mp H
                            obtain ⟨t283, A490, H⟩ := H
                            replace H : (some t283) = some r := H
                            have A49 := Aside0.mk A490
                            clear A490
                            obtain rfl := Option.some.inj H
                            have p278 : 0 ≤ (x51_2 : Int) := of_decide_eq_true (by first | (with_reducible assumption) | assumption)
                            have q278 : x51_2 < (l0_1.length : Int) := of_decide_eq_true (by first | (with_reducible assumption) | assumption)
                            obtain ⟨ad278, A278_1, c278_1, e278, hx278_0, hx278_1, hl278_1, hi278_1⟩ := at_T30 HR0_1.out x51_2 p278 q278
                            cases e278
                            replace hx278_0 := (HB.out.cell (World.block_lt_of_cell? w _ hx278_0)).trans hx278_0
                            replace hx278_1 := (HB.out.cell (World.block_lt_of_cell? w _ hx278_1)).trans hx278_1
                            have HR278_1 := Aside0.mk hi278_1
                            have HC278_1 := Aside0.mk hl278_1
                            clear hi278_1 hl278_1
                            replace p278 := eq_true p278
                            replace q278 := eq_true q278
                            try go_wp2_with (first | ((with_reducible refine gate_dst (N := 8) rfl ?_); refine box_event ?hg (N := 8) ?hd (cs := #[.int .i64 0, .slice none 0 0]) (t := 30) ?hr ?_; (case hd => rfl); (case hg => rfl); (case hr => first | (go_simp; done) | (go_simp; rfl)); intro gb279 hg w50 hbox hb; have n0_ := Aside0.mk (blk_below (g := gb266) (o := .cells #[.int .i64 a0_0, .slice (some ad278) l0_1.length c0_1] 30 (0, 0)) (by (with_reducible repeat (first | refine blk_drewN ?_ _ | refine blk_drew ?_ | refine blk_alloc ?_ _)); exact BK266.out) hb); have n1_ := Aside0.mk (blk_below (g := gb267) (o := .cells #[.int .i64 a1_0, .slice A1_1 l1_1.length c1_1] 30 (0, 0)) (by (with_reducible repeat (first | refine blk_drewN ?_ _ | refine blk_drew ?_ | refine blk_alloc ?_ _)); exact BK267.out) hb); have n2_ := Aside0.mk (below_step (by repeat (first | (with_reducible first | exact HB.out | apply below_alloc | apply pw_below_drewN | apply below_drew1 | refine below_set ?_ GE266.out | refine below_set ?_ GE267.out) | exact HB.out)) hb); have n3_ := Aside0.mk (hbox); have n4_ := Aside0.mk ((by rw [hg]; exact (below_size (by repeat (first | (with_reducible first | exact HB.out | apply below_alloc | apply pw_below_drewN | apply below_drew1 | refine below_set ?_ GE266.out | refine below_set ?_ GE267.out) | exact HB.out))) : w.heap.size ≤ gb279)); have n5_ := Aside0.mk ((by rw [hg]; exact (below_size (by repeat (first | (with_reducible first | exact HB.out | apply below_alloc | apply pw_below_drewN | apply below_drew1 | refine below_set ?_ GE266.out | refine below_set ?_ GE267.out) | exact HB.out))) : w.heap.size ≤ gb279)); have n6_ := Aside0.mk ((by rw [hg]; exact Nat.ne_of_lt (blk_lt (g := gb266) (o := .cells #[.int .i64 a0_0, .slice (some ad278) l0_1.length c0_1] 30 (0, 0)) (by (with_reducible repeat (first | refine blk_drewN ?_ _ | refine blk_drew ?_ | refine blk_alloc ?_ _)); exact BK266.out)) : gb266 ≠ gb279)); have n7_ := Aside0.mk ((by rw [hg]; exact Nat.ne_of_gt (blk_lt (g := gb266) (o := .cells #[.int .i64 a0_0, .slice (some ad278) l0_1.length c0_1] 30 (0, 0)) (by (with_reducible repeat (first | refine blk_drewN ?_ _ | refine blk_drew ?_ | refine blk_alloc ?_ _)); exact BK266.out)) : gb279 ≠ gb266)); have n8_ := Aside0.mk ((by rw [hg]; exact Nat.ne_of_lt (blk_lt (g := gb267) (o := .cells #[.int .i64 a1_0, .slice A1_1 l1_1.length c1_1] 30 (0, 0)) (by (with_reducible repeat (first | refine blk_drewN ?_ _ | refine blk_drew ?_ | refine blk_alloc ?_ _)); exact BK267.out)) : gb267 ≠ gb279)); have n9_ := Aside0.mk ((by rw [hg]; exact Nat.ne_of_gt (blk_lt (g := gb267) (o := .cells #[.int .i64 a1_0, .slice A1_1 l1_1.length c1_1] 30 (0, 0)) (by (with_reducible repeat (first | refine blk_drewN ?_ _ | refine blk_drew ?_ | refine blk_alloc ?_ _)); exact BK267.out)) : gb279 ≠ gb267)); clear BK266; clear BK267; clear HB; have BK266 := n0_; have BK267 := n1_; have HB := n2_; have BK279 := n3_; have GW279 := n4_; have GE279 := n5_; have NB266_279 := n6_; have NB279_266 := n7_; have NB267_279 := n8_; have NB279_267 := n9_; clear n0_ n1_ n2_ n3_ n4_ n5_ n6_ n7_ n8_ n9_; clear hb hbox hg; have hnb51 := NB279_266.out; have hnc51 := NB266_279.out; have hnb52 := NB279_267.out; have hnc52 := NB267_279.out; have hcz53_0 : w50.cell? ⟨gb279, 0, none⟩ = some (.int .i64 0) := (blk_cell BK279.out 0).trans rfl; have hcz53_1 : w50.cell? ⟨gb279, 1, none⟩ = some (.slice none 0 0) := (blk_cell BK279.out 1).trans rfl; have hfz53_0 := blk_frozen BK279.out 0; have hfz53_1 := blk_frozen BK279.out 1))
                            have n0_ : Aside0 (((w50.setCell ⟨gb279, 0, none⟩ (.int .i64 ((rd_T30 l0_1 x51_2).f0))).setCell ⟨gb279, 1, none⟩ (.slice A278_1 ((rd_T30 l0_1 x51_2).f1).length c278_1)).heap[gb266]? = some (.cells #[.int .i64 a0_0, .slice (some ad278) l0_1.length c0_1] 30 (0, 0))) := ⟨by (with_reducible repeat (first | refine blk_drewN ?_ _ | refine blk_drew ?_ | refine blk_alloc ?_ _)); refine blk_far ?_ NB266_279.out _; (with_reducible repeat (first | refine blk_drewN ?_ _ | refine blk_drew ?_ | refine blk_alloc ?_ _)); refine blk_far ?_ NB266_279.out _; (with_reducible repeat (first | refine blk_drewN ?_ _ | refine blk_drew ?_ | refine blk_alloc ?_ _)); exact BK266.out⟩
                            have n1_ : Aside0 (((w50.setCell ⟨gb279, 0, none⟩ (.int .i64 ((rd_T30 l0_1 x51_2).f0))).setCell ⟨gb279, 1, none⟩ (.slice A278_1 ((rd_T30 l0_1 x51_2).f1).length c278_1)).heap[gb267]? = some (.cells #[.int .i64 a1_0, .slice A1_1 l1_1.length c1_1] 30 (0, 0))) := ⟨by (with_reducible repeat (first | refine blk_drewN ?_ _ | refine blk_drew ?_ | refine blk_alloc ?_ _)); refine blk_far ?_ NB267_279.out _; (with_reducible repeat (first | refine blk_drewN ?_ _ | refine blk_drew ?_ | refine blk_alloc ?_ _)); refine blk_far ?_ NB267_279.out _; (with_reducible repeat (first | refine blk_drewN ?_ _ | refine blk_drew ?_ | refine blk_alloc ?_ _)); exact BK267.out⟩
                            have n2_ : Aside0 (((w50.setCell ⟨gb279, 0, none⟩ (.int .i64 ((rd_T30 l0_1 x51_2).f0))).setCell ⟨gb279, 1, none⟩ (.slice A278_1 ((rd_T30 l0_1 x51_2).f1).length c278_1)).heap[gb279]? = some (.cells #[.int .i64 ((rd_T30 l0_1 x51_2).f0), .slice A278_1 ((rd_T30 l0_1 x51_2).f1).length c278_1] 30 (0, 0))) := ⟨by (with_reducible repeat (first | refine blk_drewN ?_ _ | refine blk_drew ?_ | refine blk_alloc ?_ _)); refine blk_put (cs := #[.int .i64 ((rd_T30 l0_1 x51_2).f0), .slice none 0 0]) ?_ 1 _ rfl; (with_reducible repeat (first | refine blk_drewN ?_ _ | refine blk_drew ?_ | refine blk_alloc ?_ _)); refine blk_put (cs := #[.int .i64 0, .slice none 0 0]) ?_ 0 _ rfl; (with_reducible repeat (first | refine blk_drewN ?_ _ | refine blk_drew ?_ | refine blk_alloc ?_ _)); exact BK279.out⟩
                            have n3_ : Aside0 (Below w.heap.size w ((w50.setCell ⟨gb279, 0, none⟩ (.int .i64 ((rd_T30 l0_1 x51_2).f0))).setCell ⟨gb279, 1, none⟩ (.slice A278_1 ((rd_T30 l0_1 x51_2).f1).length c278_1))) := ⟨by repeat (first | (with_reducible first | exact HB.out | apply below_alloc | apply pw_below_drewN | apply below_drew1 | refine below_set ?_ GE266.out | refine below_set ?_ GE267.out | refine below_set ?_ GE279.out) | exact HB.out)⟩
                            (try clear BK266)
                            (try clear BK267)
                            (try clear BK279)
                            (try clear HB)
                            generalize ((w50.setCell ⟨gb279, 0, none⟩ (.int .i64 ((rd_T30 l0_1 x51_2).f0))).setCell ⟨gb279, 1, none⟩ (.slice A278_1 ((rd_T30 l0_1 x51_2).f1).length c278_1)) = w54 at n0_ n1_ n2_ n3_ ⊢
                            have BK266 := n0_
                            have BK267 := n1_
                            have BK279 := n2_
                            have HB := n3_
                            clear n0_ n1_ n2_ n3_
                            have n0_ := Aside0.mk (blk_drew BK266.out)
                            have n1_ := Aside0.mk (blk_drew BK267.out)
                            have n2_ := Aside0.mk (blk_drew BK279.out)
                            have n3_ := Aside0.mk (below_drew1 HB.out)
                            clear BK266
                            clear BK267
                            clear BK279
                            clear HB
                            have BK266 := n0_
                            have BK267 := n1_
                            have BK279 := n2_
                            have HB := n3_
                            clear n0_ n1_ n2_ n3_
                            have p280 : 0 ≤ (x51_2 : Int) := of_decide_eq_true (by first | (with_reducible assumption) | assumption)
                            have q280 : x51_2 < (l1_1.length : Int) := of_decide_eq_true (by first | (with_reducible assumption) | assumption)
                            obtain ⟨ad280, A280_1, c280_1, e280, hx280_0, hx280_1, hl280_1, hi280_1⟩ := at_T30 HR1_1.out x51_2 p280 q280
                            have hw280_1 := hx280_1
                            have hw280_0 := hx280_0
                            cases e280
                            replace hx280_0 := (HB.out.cell (World.block_lt_of_cell? w _ hx280_0)).trans hx280_0
                            replace hx280_1 := (HB.out.cell (World.block_lt_of_cell? w _ hx280_1)).trans hx280_1
                            have HR280_1 := Aside0.mk hi280_1
                            have HC280_1 := Aside0.mk hl280_1
                            clear hi280_1 hl280_1
                            replace p280 := eq_true p280
                            replace q280 := eq_true q280
                            refine start_ (n := 8) (S := fun w' => w'.cell? ⟨gb279, 0, none⟩ = some (.int .i64 ((rd_T30 l0_1 x51_2).f0)) ∧ w'.cell? ⟨gb279, 1, none⟩ = some (.slice A278_1 ((rd_T30 l0_1 x51_2).f1).length c278_1) ∧ w'.cell? ⟨gb267, 0, none⟩ = some (.int .i64 a1_0) ∧ w'.cell? ⟨gb267, 1, none⟩ = some (.slice (some ad280) l1_1.length c1_1) ∧ w'.cell? (ad280.add ((x51_2).toNat * 2)) = some (.int .i64 ((rd_T30 l1_1 x51_2).f0)) ∧ w'.cell? ⟨(ad280.add ((x51_2).toNat * 2)).block, (ad280.add ((x51_2).toNat * 2)).off + 1, none⟩ = some (.slice A280_1 ((rd_T30 l1_1 x51_2).f1).length c280_1)) (ds := []) #[false, false, false, false, false, false, false, false] (by kernel_rfl) rfl rfl ⟨(blk_cell BK279.out 0).trans rfl, (blk_cell BK279.out 1).trans rfl, (blk_cell BK267.out 0).trans rfl, (blk_cell BK267.out 1).trans rfl, ((HB.out.cell (World.block_lt_of_cell? w _ hw280_0)).trans hw280_0), ((HB.out.cell (World.block_lt_of_cell? w _ hw280_1)).trans hw280_1)⟩ (fun hHeld => ?_); refine with_tabW kbo_Greater.tab14 kbo_Greater.bits14 (fun HT_ HW_ => ?_)
                            generalize w54.drew = w55 at BK266 BK267 BK279 HB HR280_1 hx280_0 hx280_1 hHeld ⊢
                            refine pure_ (i := 1) (N := some 57) (v := ?_) (a' := ?_) #[false, true, false, false, false, false, false, false] rfl rfl (any_of HT_.out (by kernel_rfl)) (fun _ _ _ h => h) (Or.inl ⟨by rfl, ?_⟩) ?_ ?_
                            rotate_left
                            · intro w'
                              go_simp
                              with_reducible rfl
                            rotate_left
                            · simp only [Act.put, List.setIfInBounds_toArray, List.set_cons_zero, List.set_cons_succ, i64_w, i32_w]
                              rfl
                            refine pure_ (i := 3) (N := some 59) (v := ?_) (a' := ?_) #[false, true, false, true, false, false, false, false] rfl rfl (any_of HT_.out (by kernel_rfl)) (fun _ _ _ h => h) (Or.inl ⟨by rfl, ?_⟩) ?_ ?_
                            rotate_left
                            · intro w'
                              go_simp
                              with_reducible rfl
                            rotate_left
                            · simp only [Act.put, List.setIfInBounds_toArray, List.set_cons_zero, List.set_cons_succ, i64_w, i32_w]
                              rfl
                            refine take_ (i := 0) (N := some 56) (v := ?_) (a' := ?_) #[true, true, false, true, false, false, false, false] rfl rfl (take_ofW HT_.out HW_.out (by kernel_rfl)) (fun _ _ _ h => h) (Or.inl ⟨by rfl, ?_⟩) hHeld ?_ ?_
                            rotate_left
                            · rintro w' ⟨s0, s1, s2, s3, s4, s5⟩
                              go_simp
                              with_reducible rfl
                            rotate_left
                            · simp only [Act.put, List.setIfInBounds_toArray, List.set_cons_zero, List.set_cons_succ, i64_w, i32_w]
                              rfl
                            refine take_ (i := 2) (N := some 58) (v := ?_) (a' := ?_) #[true, true, true, true, false, false, false, false] rfl rfl (take_ofW HT_.out HW_.out (by kernel_rfl)) (fun _ _ _ h => h) (Or.inl ⟨by rfl, ?_⟩) hHeld ?_ ?_
                            rotate_left
                            · rintro w' ⟨s0, s1, s2, s3, s4, s5⟩
                              go_simp
                              with_reducible rfl
                            rotate_left
                            · simp only [Act.put, List.setIfInBounds_toArray, List.set_cons_zero, List.set_cons_succ, i64_w, i32_w]
                              rfl
                            refine pure_ (i := 4) (N := some 60) (v := ?_) (a' := ?_) #[true, true, true, true, true, false, false, false] rfl rfl (any_of HT_.out (by kernel_rfl)) (fun _ _ _ h => h) (Or.inl ⟨by rfl, ?_⟩) ?_ ?_
                            rotate_left
                            · intro w'
                              go_simp
                              with_reducible rfl
                            rotate_left
                            · simp only [Act.put, List.setIfInBounds_toArray, List.set_cons_zero, List.set_cons_succ, i64_w, i32_w]
                              rfl
                            refine take_ (i := 5) (N := some 61) (v := ?_) (a' := ?_) #[true, true, true, true, true, true, false, false] rfl rfl (take_ofW HT_.out HW_.out (by kernel_rfl)) (fun _ _ _ h => h) (Or.inl ⟨by rfl, ?_⟩) hHeld ?_ ?_
                            rotate_left
                            · rintro w' ⟨s0, s1, s2, s3, s4, s5⟩
                              go_simp
                              with_reducible rfl
                            rotate_left
                            · simp only [Act.put, List.setIfInBounds_toArray, List.set_cons_zero, List.set_cons_succ, i64_w, i32_w]
                              rfl
                            refine one_ (i := 6) (N := some 62) #[true, true, true, true, true, true, true, false] rfl rfl (one_of HT_.out (by kernel_rfl)) (by decide) (fun K hK => ?_)
                            refine goes_ Try.func37 (by kernel_rfl) rfl #[.agg #[.int .i64 ((rd_T30 l0_1 x51_2).f0), .slice A278_1 ((rd_T30 l0_1 x51_2).f1).length c278_1], .agg #[.int .i64 ((rd_T30 l1_1 x51_2).f0), .slice A280_1 ((rd_T30 l1_1 x51_2).f1).length c280_1]] (by rfl) rfl rfl (by (try simp only [List.map_toArray, List.map_cons, List.map_nil]); first | done | rfl | (simp only [List.length_drop, List.length_take]; rfl)) ?_
                            with_reducible refine (term_Same.calls ((rd_T30 l0_1 x51_2).f0) _ _ ((rd_T30 l0_1 x51_2).f1) ((rd_T30 l1_1 x51_2).f0) _ _ ((rd_T30 l1_1 x51_2).f1) false _ ?side1 ?side2 ?side3 ?side4 A40.out).mono ?_
                            (case side1 => repeat (first | exact (Kd.C_below HR278_1.out HB.out) | (with_reducible refine Kd.C_alloc ?_ _) | (with_reducible refine Kd.C_drewN ?_ _) | (with_reducible refine Kd.C_drew ?_)))
                            (case side2 => exact HC278_1.out)
                            (case side3 => repeat (first | exact (Kd.C_below HR280_1.out HB.out) | (with_reducible refine Kd.C_alloc ?_ _) | (with_reducible refine Kd.C_drewN ?_ _) | (with_reducible refine Kd.C_drew ?_)))
                            (case side4 => exact HC280_1.out)
                            rintro e w56 ⟨rfl, hb⟩
                            refine ⟨_, rfl, ?_⟩
                            have n0_ := Aside0.mk (blk_below (g := gb266) (o := .cells #[.int .i64 a0_0, .slice (some ad278) l0_1.length c0_1] 30 (0, 0)) (by (with_reducible repeat (first | refine blk_drewN ?_ _ | refine blk_drew ?_ | refine blk_alloc ?_ _)); exact BK266.out) hb)
                            have n1_ := Aside0.mk (blk_below (g := gb267) (o := .cells #[.int .i64 a1_0, .slice (some ad280) l1_1.length c1_1] 30 (0, 0)) (by (with_reducible repeat (first | refine blk_drewN ?_ _ | refine blk_drew ?_ | refine blk_alloc ?_ _)); exact BK267.out) hb)
                            have n2_ := Aside0.mk (blk_below (g := gb279) (o := .cells #[.int .i64 ((rd_T30 l0_1 x51_2).f0), .slice A278_1 ((rd_T30 l0_1 x51_2).f1).length c278_1] 30 (0, 0)) (by (with_reducible repeat (first | refine blk_drewN ?_ _ | refine blk_drew ?_ | refine blk_alloc ?_ _)); exact BK279.out) hb)
                            have n3_ := Aside0.mk (below_step (by repeat (first | (with_reducible first | exact HB.out | apply below_alloc | apply pw_below_drewN | apply below_drew1 | refine below_set ?_ GE266.out | refine below_set ?_ GE267.out | refine below_set ?_ GE279.out) | exact HB.out)) hb)
                            clear BK266
                            clear BK267
                            clear BK279
                            clear HB
                            have BK266 := n0_
                            have BK267 := n1_
                            have BK279 := n2_
                            have HB := n3_
                            clear n0_ n1_ n2_ n3_
                            (try clear hb)
                            (try clear hb2)
                            (try clear hk)
                            (try clear hi)
                            refine hK.out _ _ ⟨(blk_cell BK279.out 0).trans rfl, (blk_cell BK279.out 1).trans rfl, (blk_cell BK267.out 0).trans rfl, (blk_cell BK267.out 1).trans rfl, ((HB.out.cell (World.block_lt_of_cell? w _ hw280_0)).trans hw280_0), ((HB.out.cell (World.block_lt_of_cell? w _ hw280_1)).trans hw280_1)⟩ (fun hHeld => ?_)
                            clear hK K
                            refine norm_ (a' := ?_) ?_ ?_
                            rotate_left
                            · show Act.put _ (some 62) _ = _
                              simp only [Act.put, List.setIfInBounds_toArray, List.set_cons_zero, List.set_cons_succ, i64_w, i32_w]
                              rfl
                            refine pure_ (i := 7) (N := some 63) (v := ?_) (a' := ?_) #[true, true, true, true, true, true, true, true] rfl rfl (any_of HT_.out (by kernel_rfl)) (fun _ _ _ h => h) (Or.inl ⟨by rfl, ?_⟩) ?_ ?_
                            rotate_left
                            · intro w'
                              go_simp
                              with_reducible rfl
                            rotate_left
                            · simp only [Act.put, List.setIfInBounds_toArray, List.set_cons_zero, List.set_cons_succ, i64_w, i32_w]
                              rfl
                            refine done_ (done_of HT_.out (by kernel_rfl)) ?_
                            try go_wp2
                            have n0_ := Aside0.mk (blk_drew BK266.out)
                            have n1_ := Aside0.mk (blk_drew BK267.out)
                            have n2_ := Aside0.mk (blk_drew BK279.out)
                            have n3_ := Aside0.mk (below_drew1 HB.out)
                            clear BK266
                            clear BK267
                            clear BK279
                            clear HB
                            have BK266 := n0_
                            have BK267 := n1_
                            have BK279 := n2_
                            have HB := n3_
                            clear n0_ n1_ n2_ n3_
                            have p282 : 0 ≤ (x51_2 : Int) := of_decide_eq_true (by first | (with_reducible assumption) | assumption)
                            have q282 : x51_2 < (l1_1.length : Int) := of_decide_eq_true (by first | (with_reducible assumption) | assumption)
                            obtain ⟨ad282, A282_1, c282_1, e282, hx282_0, hx282_1, hl282_1, hi282_1⟩ := at_T30 HR1_1.out x51_2 p282 q282
                            have hw282_1 := hx282_1
                            have hw282_0 := hx282_0
                            obtain rfl : ad280 = ad282 := (by injection e282)
                            replace hx282_0 := (HB.out.cell (World.block_lt_of_cell? w _ hx282_0)).trans hx282_0
                            replace hx282_1 := (HB.out.cell (World.block_lt_of_cell? w _ hx282_1)).trans hx282_1
                            have HR282_1 := Aside0.mk hi282_1
                            have HC282_1 := Aside0.mk hl282_1
                            clear hi282_1 hl282_1
                            replace p282 := eq_true p282
                            replace q282 := eq_true q282
                            refine start_ (n := 8) (S := fun w' => w'.cell? ⟨gb279, 0, none⟩ = some (.int .i64 ((rd_T30 l0_1 x51_2).f0)) ∧ w'.cell? ⟨gb279, 1, none⟩ = some (.slice A278_1 ((rd_T30 l0_1 x51_2).f1).length c278_1) ∧ w'.cell? ⟨gb267, 0, none⟩ = some (.int .i64 a1_0) ∧ w'.cell? ⟨gb267, 1, none⟩ = some (.slice (some ad280) l1_1.length c1_1) ∧ w'.cell? (ad280.add ((x51_2).toNat * 2)) = some (.int .i64 ((rd_T30 l1_1 x51_2).f0)) ∧ w'.cell? ⟨(ad280.add ((x51_2).toNat * 2)).block, (ad280.add ((x51_2).toNat * 2)).off + 1, none⟩ = some (.slice A282_1 ((rd_T30 l1_1 x51_2).f1).length c282_1)) (ds := []) #[false, false, false, false, false, false, false, false] (by kernel_rfl) rfl rfl ⟨(blk_cell BK279.out 0).trans rfl, (blk_cell BK279.out 1).trans rfl, (blk_cell BK267.out 0).trans rfl, (blk_cell BK267.out 1).trans rfl, ((HB.out.cell (World.block_lt_of_cell? w _ hw282_0)).trans hw282_0), ((HB.out.cell (World.block_lt_of_cell? w _ hw282_1)).trans hw282_1)⟩ (fun hHeld => ?_); refine with_tabW kbo_Greater.tab15 kbo_Greater.bits15 (fun HT_ HW_ => ?_)
                            generalize w56.drew = w57 at BK266 BK267 BK279 HB HR282_1 hx282_0 hx282_1 hHeld ⊢
                            refine pure_ (i := 1) (N := some 65) (v := ?_) (a' := ?_) #[false, true, false, false, false, false, false, false] rfl rfl (any_of HT_.out (by kernel_rfl)) (fun _ _ _ h => h) (Or.inl ⟨by rfl, ?_⟩) ?_ ?_
                            rotate_left
                            · intro w'
                              go_simp
                              with_reducible rfl
                            rotate_left
                            · simp only [Act.put, List.setIfInBounds_toArray, List.set_cons_zero, List.set_cons_succ, i64_w, i32_w]
                              rfl
                            refine pure_ (i := 3) (N := some 67) (v := ?_) (a' := ?_) #[false, true, false, true, false, false, false, false] rfl rfl (any_of HT_.out (by kernel_rfl)) (fun _ _ _ h => h) (Or.inl ⟨by rfl, ?_⟩) ?_ ?_
                            rotate_left
                            · intro w'
                              go_simp
                              with_reducible rfl
                            rotate_left
                            · simp only [Act.put, List.setIfInBounds_toArray, List.set_cons_zero, List.set_cons_succ, i64_w, i32_w]
                              rfl
                            refine take_ (i := 0) (N := some 64) (v := ?_) (a' := ?_) #[true, true, false, true, false, false, false, false] rfl rfl (take_ofW HT_.out HW_.out (by kernel_rfl)) (fun _ _ _ h => h) (Or.inl ⟨by rfl, ?_⟩) hHeld ?_ ?_
                            rotate_left
                            · rintro w' ⟨s0, s1, s2, s3, s4, s5⟩
                              go_simp
                              with_reducible rfl
                            rotate_left
                            · simp only [Act.put, List.setIfInBounds_toArray, List.set_cons_zero, List.set_cons_succ, i64_w, i32_w]
                              rfl
                            refine take_ (i := 2) (N := some 66) (v := ?_) (a' := ?_) #[true, true, true, true, false, false, false, false] rfl rfl (take_ofW HT_.out HW_.out (by kernel_rfl)) (fun _ _ _ h => h) (Or.inl ⟨by rfl, ?_⟩) hHeld ?_ ?_
                            rotate_left
                            · rintro w' ⟨s0, s1, s2, s3, s4, s5⟩
                              go_simp
                              with_reducible rfl
                            rotate_left
                            · simp only [Act.put, List.setIfInBounds_toArray, List.set_cons_zero, List.set_cons_succ, i64_w, i32_w]
                              rfl
                            refine pure_ (i := 4) (N := some 68) (v := ?_) (a' := ?_) #[true, true, true, true, true, false, false, false] rfl rfl (any_of HT_.out (by kernel_rfl)) (fun _ _ _ h => h) (Or.inl ⟨by rfl, ?_⟩) ?_ ?_
                            rotate_left
                            · intro w'
                              go_simp
                              with_reducible rfl
                            rotate_left
                            · simp only [Act.put, List.setIfInBounds_toArray, List.set_cons_zero, List.set_cons_succ, i64_w, i32_w]
                              rfl
                            refine take_ (i := 5) (N := some 69) (v := ?_) (a' := ?_) #[true, true, true, true, true, true, false, false] rfl rfl (take_ofW HT_.out HW_.out (by kernel_rfl)) (fun _ _ _ h => h) (Or.inl ⟨by rfl, ?_⟩) hHeld ?_ ?_
                            rotate_left
                            · rintro w' ⟨s0, s1, s2, s3, s4, s5⟩
                              go_simp
                              with_reducible rfl
                            rotate_left
                            · simp only [Act.put, List.setIfInBounds_toArray, List.set_cons_zero, List.set_cons_succ, i64_w, i32_w]
                              rfl
                            refine one_ (i := 6) (N := some 70) #[true, true, true, true, true, true, true, false] rfl rfl (one_of HT_.out (by kernel_rfl)) (by decide) (fun K hK => ?_)
                            refine goes_ Try.func41 (by kernel_rfl) rfl #[.agg #[.int .i64 ((rd_T30 l0_1 x51_2).f0), .slice A278_1 ((rd_T30 l0_1 x51_2).f1).length c278_1], .agg #[.int .i64 ((rd_T30 l1_1 x51_2).f0), .slice A282_1 ((rd_T30 l1_1 x51_2).f1).length c282_1]] (by rfl) rfl rfl (by (try simp only [List.map_toArray, List.map_cons, List.map_nil]); first | done | rfl | (simp only [List.length_drop, List.length_take]; rfl)) ?_
                            with_reducible refine (ih k2 (by have := HJ8.out; have := HK2.out; omega) ((rd_T30 l0_1 x51_2).f0) _ _ ((rd_T30 l0_1 x51_2).f1) ((rd_T30 l1_1 x51_2).f0) _ _ ((rd_T30 l1_1 x51_2).f1) t283 _ ?side1 ?side2 ?side3 ?side4 A49.out).mono ?_
                            (case side1 => repeat (first | exact (Kd.C_below HR278_1.out HB.out) | (with_reducible refine Kd.C_alloc ?_ _) | (with_reducible refine Kd.C_drewN ?_ _) | (with_reducible refine Kd.C_drew ?_)))
                            (case side2 => exact HC278_1.out)
                            (case side3 => repeat (first | exact (Kd.C_below HR282_1.out HB.out) | (with_reducible refine Kd.C_alloc ?_ _) | (with_reducible refine Kd.C_drewN ?_ _) | (with_reducible refine Kd.C_drew ?_)))
                            (case side4 => exact HC282_1.out)
                            rintro e w58 ⟨rfl, hb⟩
                            refine ⟨_, rfl, ?_⟩
                            have n0_ := Aside0.mk (blk_below (g := gb266) (o := .cells #[.int .i64 a0_0, .slice (some ad278) l0_1.length c0_1] 30 (0, 0)) (by (with_reducible repeat (first | refine blk_drewN ?_ _ | refine blk_drew ?_ | refine blk_alloc ?_ _)); exact BK266.out) hb)
                            have n1_ := Aside0.mk (blk_below (g := gb267) (o := .cells #[.int .i64 a1_0, .slice (some ad280) l1_1.length c1_1] 30 (0, 0)) (by (with_reducible repeat (first | refine blk_drewN ?_ _ | refine blk_drew ?_ | refine blk_alloc ?_ _)); exact BK267.out) hb)
                            have n2_ := Aside0.mk (blk_below (g := gb279) (o := .cells #[.int .i64 ((rd_T30 l0_1 x51_2).f0), .slice A278_1 ((rd_T30 l0_1 x51_2).f1).length c278_1] 30 (0, 0)) (by (with_reducible repeat (first | refine blk_drewN ?_ _ | refine blk_drew ?_ | refine blk_alloc ?_ _)); exact BK279.out) hb)
                            have n3_ := Aside0.mk (below_step (by repeat (first | (with_reducible first | exact HB.out | apply below_alloc | apply pw_below_drewN | apply below_drew1 | refine below_set ?_ GE266.out | refine below_set ?_ GE267.out | refine below_set ?_ GE279.out) | exact HB.out)) hb)
                            clear BK266
                            clear BK267
                            clear BK279
                            clear HB
                            have BK266 := n0_
                            have BK267 := n1_
                            have BK279 := n2_
                            have HB := n3_
                            clear n0_ n1_ n2_ n3_
                            (try clear hb)
                            (try clear hb2)
                            (try clear hk)
                            (try clear hi)
                            refine hK.out _ _ ⟨(blk_cell BK279.out 0).trans rfl, (blk_cell BK279.out 1).trans rfl, (blk_cell BK267.out 0).trans rfl, (blk_cell BK267.out 1).trans rfl, ((HB.out.cell (World.block_lt_of_cell? w _ hw282_0)).trans hw282_0), ((HB.out.cell (World.block_lt_of_cell? w _ hw282_1)).trans hw282_1)⟩ (fun hHeld => ?_)
                            clear hK K
                            refine norm_ (a' := ?_) ?_ ?_
                            rotate_left
                            · show Act.put _ (some 70) _ = _
                              simp only [Act.put, List.setIfInBounds_toArray, List.set_cons_zero, List.set_cons_succ, i64_w, i32_w]
                              rfl
                            refine pure_ (i := 7) (N := some 4) (v := ?_) (a' := ?_) #[true, true, true, true, true, true, true, true] rfl rfl (any_of HT_.out (by kernel_rfl)) (fun _ _ _ h => h) (Or.inl ⟨by rfl, ?_⟩) ?_ ?_
                            rotate_left
                            · intro w'
                              go_simp
                              with_reducible rfl
                            rotate_left
                            · simp only [Act.put, List.setIfInBounds_toArray, List.set_cons_zero, List.set_cons_succ, i64_w, i32_w]
                              rfl
                            refine done_ (done_of HT_.out (by kernel_rfl)) ?_
                            try go_wp2
                            go_ret
                            exact ⟨by first | rfl | (simp [errW_none, errW_some] <;> rfl) | (simp [*, errW_none, errW_some] <;> rfl), by repeat (first | (with_reducible first | exact HB.out | apply below_alloc | apply pw_below_drewN | apply below_drew1 | refine below_set ?_ GE266.out | refine below_set ?_ GE267.out | refine below_set ?_ GE279.out) | exact HB.out)⟩
                        · rw [if_neg c39] at H
                          exact absurd H (by simp)
                      · rw [if_neg c38] at H
                        exact absurd H (by simp)
                    · rw [if_neg c37] at H
                      exact absurd H (by simp)
                  · rw [if_neg c36] at H
                    have c36b0 : decide (x51_2 < (l0_1.length : Int)) = false := decide_eq_false c36
                    clear c36
                    obtain rfl := Option.some.inj H
                    go_wp2
                    go_ret
                    exact ⟨by first | rfl | (simp [errW_none, errW_some] <;> rfl) | (simp [*, errW_none, errW_some] <;> rfl), by repeat (first | (with_reducible first | exact HB.out | apply below_alloc | apply pw_below_drewN | apply below_drew1 | refine below_set ?_ GE266.out | refine below_set ?_ GE267.out) | exact HB.out)⟩
            · rw [if_neg c29] at H
              have c29b0 : (t277 == 0) = false := beq_eq_false_iff_ne.mpr c29
              have c29b1 : (t277 != 0) = true := bne_iff_ne.mpr c29
              obtain rfl := Option.some.inj H
              try go_wp2
              have n0_ := Aside0.mk (blk_drew BK266.out)
              have n1_ := Aside0.mk (blk_drew BK267.out)
              have n2_ := Aside0.mk (below_drew1 HB.out)
              clear BK266
              clear BK267
              clear HB
              have BK266 := n0_
              have BK267 := n1_
              have HB := n2_
              clear n0_ n1_ n2_
              refine start_ (n := 15) (S := fun w' => w'.cell? ⟨gb266, 0, none⟩ = some (.int .i64 a0_0) ∧ w'.cell? ⟨gb266, 1, none⟩ = some (.slice A0_1 l0_1.length c0_1) ∧ w'.cell? ⟨gb267, 0, none⟩ = some (.int .i64 a1_0) ∧ w'.cell? ⟨gb267, 1, none⟩ = some (.slice A1_1 l1_1.length c1_1)) (ds := []) #[false, false, false, false, false, false, false, false, false, false, false, false, false, false, false] (by kernel_rfl) rfl rfl ⟨(blk_cell BK266.out 0).trans rfl, (blk_cell BK266.out 1).trans rfl, (blk_cell BK267.out 0).trans rfl, (blk_cell BK267.out 1).trans rfl⟩ (fun hHeld => ?_); refine with_tabW kbo_Greater.tab8 kbo_Greater.bits8 (fun HT_ HW_ => ?_)
              generalize wc.drew = w59 at BK266 BK267 HB hHeld ⊢
              refine pure_ (i := 0) (N := some 30) (v := ?_) (a' := ?_) #[true, false, false, false, false, false, false, false, false, false, false, false, false, false, false] rfl rfl (any_of HT_.out (by kernel_rfl)) (fun _ _ _ h => h) (Or.inl ⟨by rfl, ?_⟩) ?_ ?_
              rotate_left
              · intro w'
                go_simp
                with_reducible rfl
              rotate_left
              · simp only [Act.put, List.setIfInBounds_toArray, List.set_cons_zero, List.set_cons_succ, i64_w, i32_w]
                rfl
              refine pure_ (i := 2) (N := some 32) (v := ?_) (a' := ?_) #[true, false, true, false, false, false, false, false, false, false, false, false, false, false, false] rfl rfl (any_of HT_.out (by kernel_rfl)) (fun _ _ _ h => h) (Or.inl ⟨by rfl, ?_⟩) ?_ ?_
              rotate_left
              · intro w'
                go_simp
                with_reducible rfl
              rotate_left
              · simp only [Act.put, List.setIfInBounds_toArray, List.set_cons_zero, List.set_cons_succ, i64_w, i32_w]
                rfl
              refine pure_ (i := 5) (N := some 35) (v := ?_) (a' := ?_) #[true, false, true, false, false, true, false, false, false, false, false, false, false, false, false] rfl rfl (any_of HT_.out (by kernel_rfl)) (fun _ _ _ h => h) (Or.inl ⟨by rfl, ?_⟩) ?_ ?_
              rotate_left
              · intro w'
                go_simp
                with_reducible rfl
              rotate_left
              · simp only [Act.put, List.setIfInBounds_toArray, List.set_cons_zero, List.set_cons_succ, i64_w, i32_w]
                rfl
              refine pure_ (i := 8) (N := some 38) (v := ?_) (a' := ?_) #[true, false, true, false, false, true, false, false, true, false, false, false, false, false, false] rfl rfl (any_of HT_.out (by kernel_rfl)) (fun _ _ _ h => h) (Or.inl ⟨by rfl, ?_⟩) ?_ ?_
              rotate_left
              · intro w'
                go_simp
                with_reducible rfl
              rotate_left
              · simp only [Act.put, List.setIfInBounds_toArray, List.set_cons_zero, List.set_cons_succ, i64_w, i32_w]
                rfl
              refine take_ (i := 1) (N := some 31) (v := ?_) (a' := ?_) #[true, true, true, false, false, true, false, false, true, false, false, false, false, false, false] rfl rfl (take_ofW HT_.out HW_.out (by kernel_rfl)) (fun _ _ _ h => h) (Or.inl ⟨by rfl, ?_⟩) hHeld ?_ ?_
              rotate_left
              · rintro w' ⟨s0, s1, s2, s3⟩
                go_simp
                with_reducible rfl
              rotate_left
              · simp only [Act.put, List.setIfInBounds_toArray, List.set_cons_zero, List.set_cons_succ, i64_w, i32_w]
                rfl
              refine take_ (i := 3) (N := some 33) (v := ?_) (a' := ?_) #[true, true, true, true, false, true, false, false, true, false, false, false, false, false, false] rfl rfl (take_ofW HT_.out HW_.out (by kernel_rfl)) (fun _ _ _ h => h) (Or.inl ⟨by rfl, ?_⟩) hHeld ?_ ?_
              rotate_left
              · rintro w' ⟨s0, s1, s2, s3⟩
                go_simp
                with_reducible rfl
              rotate_left
              · simp only [Act.put, List.setIfInBounds_toArray, List.set_cons_zero, List.set_cons_succ, i64_w, i32_w]
                rfl
              refine take_ (i := 6) (N := some 36) (v := ?_) (a' := ?_) #[true, true, true, true, false, true, true, false, true, false, false, false, false, false, false] rfl rfl (take_ofW HT_.out HW_.out (by kernel_rfl)) (fun _ _ _ h => h) (Or.inl ⟨by rfl, ?_⟩) hHeld ?_ ?_
              rotate_left
              · rintro w' ⟨s0, s1, s2, s3⟩
                go_simp
                with_reducible rfl
              rotate_left
              · simp only [Act.put, List.setIfInBounds_toArray, List.set_cons_zero, List.set_cons_succ, i64_w, i32_w]
                rfl
              refine pure_ (i := 7) (N := some 37) (v := ?_) (a' := ?_) #[true, true, true, true, false, true, true, true, true, false, false, false, false, false, false] rfl rfl (any_of HT_.out (by kernel_rfl)) (fun _ _ _ h => h) (Or.inl ⟨by rfl, ?_⟩) ?_ ?_
              rotate_left
              · intro w'
                go_simp
                with_reducible rfl
              rotate_left
              · simp only [Act.put, List.setIfInBounds_toArray, List.set_cons_zero, List.set_cons_succ, i64_w, i32_w]
                rfl
              refine take_ (i := 9) (N := some 39) (v := ?_) (a' := ?_) #[true, true, true, true, false, true, true, true, true, true, false, false, false, false, false] rfl rfl (take_ofW HT_.out HW_.out (by kernel_rfl)) (fun _ _ _ h => h) (Or.inl ⟨by rfl, ?_⟩) hHeld ?_ ?_
              rotate_left
              · rintro w' ⟨s0, s1, s2, s3⟩
                go_simp
                with_reducible rfl
              rotate_left
              · simp only [Act.put, List.setIfInBounds_toArray, List.set_cons_zero, List.set_cons_succ, i64_w, i32_w]
                rfl
              refine pure_ (i := 10) (N := some 40) (v := ?_) (a' := ?_) #[true, true, true, true, false, true, true, true, true, true, true, false, false, false, false] rfl rfl (any_of HT_.out (by kernel_rfl)) (fun _ _ _ h => h) (Or.inl ⟨by rfl, ?_⟩) ?_ ?_
              rotate_left
              · intro w'
                go_simp
                with_reducible rfl
              rotate_left
              · simp only [Act.put, List.setIfInBounds_toArray, List.set_cons_zero, List.set_cons_succ, i64_w, i32_w]
                rfl
              refine one_ (i := 4) (N := some 34) #[true, true, true, true, true, true, true, true, true, true, true, false, false, false, false] rfl rfl (one_of HT_.out (by kernel_rfl)) (by decide) (fun K hK => ?_)
              refine goes_ Try.func76 (by kernel_rfl) rfl #[.int .i64 a0_0, .int .i64 a1_0] (by rfl) rfl rfl (by (try simp only [List.map_toArray, List.map_cons, List.map_nil]); first | done | rfl | (simp only [List.length_drop, List.length_take]; rfl)) ?_
              with_reducible refine (cmp_Compare_int.calls a0_0 a1_0 t272 _ A26.out).mono ?_
              rintro e w' ⟨rfl, ⟨nd, rfl⟩⟩
              refine ⟨_, rfl, ?_⟩
              refine hK.out _ _ ⟨(blk_cell BK266.out 0).trans rfl, (blk_cell BK266.out 1).trans rfl, (blk_cell BK267.out 0).trans rfl, (blk_cell BK267.out 1).trans rfl⟩ (fun hHeld => ?_)
              clear hK K
              refine norm_ (a' := ?_) ?_ ?_
              rotate_left
              · show Act.put _ (some 34) _ = _
                simp only [Act.put, List.setIfInBounds_toArray, List.set_cons_zero, List.set_cons_succ, i64_w, i32_w]
                rfl
              refine one_ (i := 11) (N := some 41) #[true, true, true, true, true, true, true, true, true, true, true, true, false, false, false] rfl rfl (one_of HT_.out (by kernel_rfl)) (by decide) (fun K hK => ?_)
              refine goes_ Try.func76 (by kernel_rfl) rfl #[.int .i64 (l0_1.length : Int), .int .i64 (l1_1.length : Int)] (by rfl) rfl rfl (by (try simp only [List.map_toArray, List.map_cons, List.map_nil]); first | done | rfl | (simp only [List.length_drop, List.length_take]; rfl)) ?_
              with_reducible refine (cmp_Compare_int.calls (l0_1.length : Int) (l1_1.length : Int) t273 _ A27.out).mono ?_
              rintro e w' ⟨rfl, ⟨nd, rfl⟩⟩
              refine ⟨_, rfl, ?_⟩
              refine hK.out _ _ ⟨(blk_cell BK266.out 0).trans rfl, (blk_cell BK266.out 1).trans rfl, (blk_cell BK267.out 0).trans rfl, (blk_cell BK267.out 1).trans rfl⟩ (fun hHeld => ?_)
              clear hK K
              refine norm_ (a' := ?_) ?_ ?_
              rotate_left
              · show Act.put _ (some 41) _ = _
                simp only [Act.put, List.setIfInBounds_toArray, List.set_cons_zero, List.set_cons_succ, i64_w, i32_w]
                rfl
              refine one_ (i := 12) (N := some 42) #[true, true, true, true, true, true, true, true, true, true, true, true, true, false, false] rfl rfl (one_of HT_.out (by kernel_rfl)) (by decide) (fun K hK => ?_)
              refine Kd.R_lit_step (Kd.int .i64) _ 3 ?hg (N := 42) ?hd (xs := ([t272, t273] : List Int)) (inner := [.int .i64 t272, .int .i64 t273]) (ok := fun _ => True) (okp := fun _ => True) ?hr ?hp (fun _ hk => hk) trivial (Below.refl _ _) (Nat.le_refl _) (by simp) ?_; (case hd => rfl); (case hg => rfl); (case hr => first | (go_simp; done) | (go_simp; rfl)); (case hp => exact (Reps.one (show Kd.M (Kd.int .i64) _ _ _ t272 [.int .i64 t272] from rfl) (Reps.one (show Kd.M (Kd.int .i64) _ _ _ t273 [.int .i64 t273] from rfl) (Reps.none _ _))))
              intro v275 w60 ho61 hb hg_ hnew_
              clear hg_ hnew_
              (first | rw [← Ny274.out] at ho61 | (simp only [Int.reduceToNat] at ho61; rw [← Ny274.out] at ho61))
              have n0_ := Aside0.mk (Kd.R_lower ho61 (below_size (by repeat (first | (with_reducible first | exact HB.out | apply below_alloc | apply pw_below_drewN | apply below_drew1 | refine below_set ?_ GE266.out | refine below_set ?_ GE267.out) | exact HB.out))))
              have n1_ := Aside0.mk (blk_below (g := gb266) (o := .cells #[.int .i64 a0_0, .slice A0_1 l0_1.length c0_1] 30 (0, 0)) (by (with_reducible repeat (first | refine blk_drewN ?_ _ | refine blk_drew ?_ | refine blk_alloc ?_ _)); exact BK266.out) hb)
              have n2_ := Aside0.mk (blk_below (g := gb267) (o := .cells #[.int .i64 a1_0, .slice A1_1 l1_1.length c1_1] 30 (0, 0)) (by (with_reducible repeat (first | refine blk_drewN ?_ _ | refine blk_drew ?_ | refine blk_alloc ?_ _)); exact BK267.out) hb)
              have n3_ := Aside0.mk (below_step (by repeat (first | (with_reducible first | exact HB.out | apply below_alloc | apply pw_below_drewN | apply below_drew1 | refine below_set ?_ GE266.out | refine below_set ?_ GE267.out) | exact HB.out)) hb)
              clear BK266
              clear BK267
              clear HB
              have HO276 := n0_
              have BK266 := n1_
              have BK267 := n2_
              have HB := n3_
              clear n0_ n1_ n2_ n3_
              clear hb ho61
              obtain ⟨Ao62, co62, eo62⟩ := Kd.R_slice HO276.out
              (first | subst eo62 | (injection eo62 with f1_ f2_ f3_; have f4_ := f1_.symm; have f5_ := f3_.symm; clear f1_ f2_ f3_; subst f4_; subst f5_))
              refine hK.out _ _ ⟨(blk_cell BK266.out 0).trans rfl, (blk_cell BK266.out 1).trans rfl, (blk_cell BK267.out 0).trans rfl, (blk_cell BK267.out 1).trans rfl⟩ (fun hHeld => ?_)
              clear hK K
              refine norm_ (a' := ?_) ?_ ?_
              rotate_left
              · show Act.put _ (some 42) _ = _
                simp only [Act.put, List.setIfInBounds_toArray, List.set_cons_zero, List.set_cons_succ, i64_w, i32_w]
                rfl
              refine one_ (i := 13) (N := some 43) #[true, true, true, true, true, true, true, true, true, true, true, true, true, true, false] rfl rfl (one_of HT_.out (by kernel_rfl)) (by decide) (fun K hK => ?_)
              refine goes_ Try.func77 (by kernel_rfl) rfl #[.slice Ao62 y274.length co62] (by rfl) rfl rfl (by (try simp only [List.map_toArray, List.map_cons, List.map_nil]); first | done | rfl | (simp only [List.length_drop, List.length_take]; rfl)) ?_
              with_reducible refine (cmp_Or_int.calls kj8 _ _ y274 t277 _ ?side1 ?side2 A28.out).mono ?_
              (case side1 => repeat (first | exact (Kd.R_reads' HO276.out).2.2 | (with_reducible refine Kd.C_alloc ?_ _) | (with_reducible refine Kd.C_drewN ?_ _) | (with_reducible refine Kd.C_drew ?_)))
              (case side2 => exact (Kd.R_reads' HO276.out).2.1)
              rintro e w' ⟨rfl, ⟨nd, rfl⟩⟩
              refine ⟨_, rfl, ?_⟩
              refine hK.out _ _ ⟨(blk_cell BK266.out 0).trans rfl, (blk_cell BK266.out 1).trans rfl, (blk_cell BK267.out 0).trans rfl, (blk_cell BK267.out 1).trans rfl⟩ (fun hHeld => ?_)
              clear hK K
              refine norm_ (a' := ?_) ?_ ?_
              rotate_left
              · show Act.put _ (some 43) _ = _
                simp only [Act.put, List.setIfInBounds_toArray, List.set_cons_zero, List.set_cons_succ, i64_w, i32_w]
                rfl
              refine pure_ (i := 14) (N := some 6) (v := ?_) (a' := ?_) #[true, true, true, true, true, true, true, true, true, true, true, true, true, true, true] rfl rfl (any_of HT_.out (by kernel_rfl)) (fun _ _ _ h => h) (Or.inl ⟨by rfl, ?_⟩) ?_ ?_
              rotate_left
              · intro w'
                go_simp
                with_reducible rfl
              rotate_left
              · simp only [Act.put, List.setIfInBounds_toArray, List.set_cons_zero, List.set_cons_succ, i64_w, i32_w]
                rfl
              refine done_ (done_of HT_.out (by kernel_rfl)) ?_
              try go_wp2
              go_ret
              exact ⟨by first | rfl | (simp [errW_none, errW_some] <;> rfl) | (simp [*, errW_none, errW_some] <;> rfl), by repeat (first | (with_reducible first | exact HB.out | apply below_alloc | apply pw_below_drewN | apply below_drew1 | refine below_set ?_ GE266.out | refine below_set ?_ GE267.out) | exact HB.out)⟩
    · rw [if_neg c8] at H
      have c8b0 : (t271 == 0) = false := beq_eq_false_iff_ne.mpr c8
      have c8b1 : (t271 != 0) = true := bne_iff_ne.mpr c8
      obtain rfl := Option.some.inj H
      go_enter Try.func41, Try.ntmps41
      try go_wp2_with (first | ((with_reducible refine gate_dst (N := 2) rfl ?_); refine box_event ?hg (N := 2) ?hd (cs := #[.int .i64 a0_0, .slice A0_1 l0_1.length c0_1]) (t := 30) ?hr ?_; (case hd => rfl); (case hg => rfl); (case hr => first | (go_simp; done) | (go_simp; rfl)); intro gb266 hg w63 hbox hb; have n0_ := Aside0.mk (below_step (by repeat (first | (with_reducible first | exact HB.out | apply below_alloc | apply pw_below_drewN | apply below_drew1) | exact HB.out)) hb); have n1_ := Aside0.mk (hbox); have n2_ := Aside0.mk ((by rw [hg]; exact (below_size (by repeat (first | (with_reducible first | exact HB.out | apply below_alloc | apply pw_below_drewN | apply below_drew1) | exact HB.out))) : w.heap.size ≤ gb266)); have n3_ := Aside0.mk ((by rw [hg]; exact (below_size (by repeat (first | (with_reducible first | exact HB.out | apply below_alloc | apply pw_below_drewN | apply below_drew1) | exact HB.out))) : w.heap.size ≤ gb266)); clear HB; have HB := n0_; have BK266 := n1_; have GW266 := n2_; have GE266 := n3_; clear n0_ n1_ n2_ n3_; clear hb hbox hg) | ((with_reducible refine gate_dst (N := 3) rfl ?_); refine box_event ?hg (N := 3) ?hd (cs := #[.int .i64 a1_0, .slice A1_1 l1_1.length c1_1]) (t := 30) ?hr ?_; (case hd => rfl); (case hg => rfl); (case hr => first | (go_simp; done) | (go_simp; rfl)); intro gb267 hg w64 hbox hb; have n0_ := Aside0.mk (blk_below (g := gb266) (o := .cells #[.int .i64 a0_0, .slice A0_1 l0_1.length c0_1] 30 (0, 0)) (by (with_reducible repeat (first | refine blk_drewN ?_ _ | refine blk_drew ?_ | refine blk_alloc ?_ _)); exact BK266.out) hb); have n1_ := Aside0.mk (below_step (by repeat (first | (with_reducible first | exact HB.out | apply below_alloc | apply pw_below_drewN | apply below_drew1 | refine below_set ?_ GE266.out) | exact HB.out)) hb); have n2_ := Aside0.mk (hbox); have n3_ := Aside0.mk ((by rw [hg]; exact (below_size (by repeat (first | (with_reducible first | exact HB.out | apply below_alloc | apply pw_below_drewN | apply below_drew1 | refine below_set ?_ GE266.out) | exact HB.out))) : w.heap.size ≤ gb267)); have n4_ := Aside0.mk ((by rw [hg]; exact (below_size (by repeat (first | (with_reducible first | exact HB.out | apply below_alloc | apply pw_below_drewN | apply below_drew1 | refine below_set ?_ GE266.out) | exact HB.out))) : w.heap.size ≤ gb267)); have n5_ := Aside0.mk ((by rw [hg]; exact Nat.ne_of_lt (blk_lt (g := gb266) (o := .cells #[.int .i64 a0_0, .slice A0_1 l0_1.length c0_1] 30 (0, 0)) (by (with_reducible repeat (first | refine blk_drewN ?_ _ | refine blk_drew ?_ | refine blk_alloc ?_ _)); exact BK266.out)) : gb266 ≠ gb267)); have n6_ := Aside0.mk ((by rw [hg]; exact Nat.ne_of_gt (blk_lt (g := gb266) (o := .cells #[.int .i64 a0_0, .slice A0_1 l0_1.length c0_1] 30 (0, 0)) (by (with_reducible repeat (first | refine blk_drewN ?_ _ | refine blk_drew ?_ | refine blk_alloc ?_ _)); exact BK266.out)) : gb267 ≠ gb266)); clear BK266; clear HB; have BK266 := n0_; have HB := n1_; have BK267 := n2_; have GW267 := n3_; have GE267 := n4_; have NB266_267 := n5_; have NB267_266 := n6_; clear n0_ n1_ n2_ n3_ n4_ n5_ n6_; clear hb hbox hg; have hnb65 := NB266_267.out; have hnc65 := NB267_266.out; have hcz66_0 : w64.cell? ⟨gb266, 0, none⟩ = some (.int .i64 a0_0) := (blk_cell BK266.out 0).trans rfl; have hcz66_1 : w64.cell? ⟨gb266, 1, none⟩ = some (.slice A0_1 l0_1.length c0_1) := (blk_cell BK266.out 1).trans rfl; have hfz66_0 := blk_frozen BK266.out 0; have hfz66_1 := blk_frozen BK266.out 1; have hcz67_0 : w64.cell? ⟨gb267, 0, none⟩ = some (.int .i64 a1_0) := (blk_cell BK267.out 0).trans rfl; have hcz67_1 : w64.cell? ⟨gb267, 1, none⟩ = some (.slice A1_1 l1_1.length c1_1) := (blk_cell BK267.out 1).trans rfl; have hfz67_0 := blk_frozen BK267.out 0; have hfz67_1 := blk_frozen BK267.out 1) | ((with_reducible refine gate_callee (f := 45) rfl ?_); refine goesL_ (some 11) rfl rfl Try.func45 (by kernel_rfl) rfl #[.agg #[.int .i64 a0_0, .slice A0_1 l0_1.length c0_1], .agg #[.int .i64 a1_0, .slice A1_1 l1_1.length c1_1]] rfl (by (try simp only [List.map_toArray, List.map_cons, List.map_nil]); first | done | rfl | (simp only [List.length_drop, List.length_take]; rfl)) ?_; (with_reducible refine (kbo_Covers.calls a0_0 _ _ l0_1 a1_0 _ _ l1_1 true _ ?side1 ?side2 ?side3 ?side4 A3.out).mono ?_); (case side1 => repeat (first | exact (Kd.C_below HR0_1.out HB.out) | (with_reducible refine Kd.C_alloc ?_ _) | (with_reducible refine Kd.C_drewN ?_ _) | (with_reducible refine Kd.C_drew ?_))); (case side2 => exact HC0_1.out); (case side3 => repeat (first | exact (Kd.C_below HR1_1.out HB.out) | (with_reducible refine Kd.C_alloc ?_ _) | (with_reducible refine Kd.C_drewN ?_ _) | (with_reducible refine Kd.C_drew ?_))); (case side4 => exact HC1_1.out); rintro e w68 ⟨rfl, hb⟩; refine ⟨_, rfl, ?_⟩; have n0_ := Aside0.mk (blk_below (g := gb266) (o := .cells #[.int .i64 a0_0, .slice A0_1 l0_1.length c0_1] 30 (0, 0)) (by (with_reducible repeat (first | refine blk_drewN ?_ _ | refine blk_drew ?_ | refine blk_alloc ?_ _)); exact BK266.out) hb); have n1_ := Aside0.mk (blk_below (g := gb267) (o := .cells #[.int .i64 a1_0, .slice A1_1 l1_1.length c1_1] 30 (0, 0)) (by (with_reducible repeat (first | refine blk_drewN ?_ _ | refine blk_drew ?_ | refine blk_alloc ?_ _)); exact BK267.out) hb); have n2_ := Aside0.mk (below_step (by repeat (first | (with_reducible first | exact HB.out | apply below_alloc | apply pw_below_drewN | apply below_drew1 | refine below_set ?_ GE266.out | refine below_set ?_ GE267.out) | exact HB.out)) hb); clear BK266; clear BK267; clear HB; have BK266 := n0_; have BK267 := n1_; have HB := n2_; clear n0_ n1_ n2_; (try clear hb); (try clear hb2); (try clear hk); (try clear hi)))
      have n0_ := Aside0.mk (blk_drew BK266.out)
      have n1_ := Aside0.mk (blk_drew BK267.out)
      have n2_ := Aside0.mk (below_drew1 HB.out)
      clear BK266
      clear BK267
      clear HB
      have BK266 := n0_
      have BK267 := n1_
      have HB := n2_
      clear n0_ n1_ n2_
      refine start_ (n := 6) (S := fun w' => w'.cell? ⟨gb266, 0, none⟩ = some (.int .i64 a0_0) ∧ w'.cell? ⟨gb266, 1, none⟩ = some (.slice A0_1 l0_1.length c0_1) ∧ w'.cell? ⟨gb267, 0, none⟩ = some (.int .i64 a1_0) ∧ w'.cell? ⟨gb267, 1, none⟩ = some (.slice A1_1 l1_1.length c1_1)) (ds := []) #[false, false, false, false, false, false] (by kernel_rfl) rfl rfl ⟨(blk_cell BK266.out 0).trans rfl, (blk_cell BK266.out 1).trans rfl, (blk_cell BK267.out 0).trans rfl, (blk_cell BK267.out 1).trans rfl⟩ (fun hHeld => ?_)
      generalize w68.drew = w69 at BK266 BK267 HB hHeld ⊢
      refine take_ (i := 0) (N := some 13) (v := ?_) (a' := ?_) #[true, false, false, false, false, false] rfl rfl (by kernel_rfl) (fun _ _ _ h => h) (Or.inl ⟨by rfl, ?_⟩) hHeld ?_ ?_
      rotate_left
      · rintro w' ⟨s0, s1, s2, s3⟩
        go_simp
        with_reducible rfl
      rotate_left
      · simp only [Act.put, List.setIfInBounds_toArray, List.set_cons_zero, List.set_cons_succ, i64_w, i32_w]
        rfl
      refine take_ (i := 2) (N := some 15) (v := ?_) (a' := ?_) #[true, false, true, false, false, false] rfl rfl (by kernel_rfl) (fun _ _ _ h => h) (Or.inl ⟨by rfl, ?_⟩) hHeld ?_ ?_
      rotate_left
      · rintro w' ⟨s0, s1, s2, s3⟩
        go_simp
        with_reducible rfl
      rotate_left
      · simp only [Act.put, List.setIfInBounds_toArray, List.set_cons_zero, List.set_cons_succ, i64_w, i32_w]
        rfl
      refine one_ (i := 1) (N := some 14) #[true, true, true, false, false, false] rfl rfl (by kernel_rfl) (by decide) (fun K hK => ?_)
      refine goes_ Try.func34 (by kernel_rfl) rfl #[.agg #[.int .i64 a0_0, .slice A0_1 l0_1.length c0_1]] (by rfl) rfl rfl (by (try simp only [List.map_toArray, List.map_cons, List.map_nil]); first | done | rfl | (simp only [List.length_drop, List.length_take]; rfl)) ?_
      with_reducible refine (term_Size.calls a0_0 _ _ l0_1 t269 _ ?side1 ?side2 A5.out).mono ?_
      (case side1 => repeat (first | exact (Kd.C_below HR0_1.out HB.out) | (with_reducible refine Kd.C_alloc ?_ _) | (with_reducible refine Kd.C_drewN ?_ _) | (with_reducible refine Kd.C_drew ?_)))
      (case side2 => exact HC0_1.out)
      rintro e w70 ⟨rfl, hb⟩
      refine ⟨_, rfl, ?_⟩
      have n0_ := Aside0.mk (blk_below (g := gb266) (o := .cells #[.int .i64 a0_0, .slice A0_1 l0_1.length c0_1] 30 (0, 0)) (by (with_reducible repeat (first | refine blk_drewN ?_ _ | refine blk_drew ?_ | refine blk_alloc ?_ _)); exact BK266.out) hb)
      have n1_ := Aside0.mk (blk_below (g := gb267) (o := .cells #[.int .i64 a1_0, .slice A1_1 l1_1.length c1_1] 30 (0, 0)) (by (with_reducible repeat (first | refine blk_drewN ?_ _ | refine blk_drew ?_ | refine blk_alloc ?_ _)); exact BK267.out) hb)
      have n2_ := Aside0.mk (below_step (by repeat (first | (with_reducible first | exact HB.out | apply below_alloc | apply pw_below_drewN | apply below_drew1 | refine below_set ?_ GE266.out | refine below_set ?_ GE267.out) | exact HB.out)) hb)
      clear BK266
      clear BK267
      clear HB
      have BK266 := n0_
      have BK267 := n1_
      have HB := n2_
      clear n0_ n1_ n2_
      (try clear hb)
      (try clear hb2)
      (try clear hk)
      (try clear hi)
      refine hK.out _ _ ⟨(blk_cell BK266.out 0).trans rfl, (blk_cell BK266.out 1).trans rfl, (blk_cell BK267.out 0).trans rfl, (blk_cell BK267.out 1).trans rfl⟩ (fun hHeld => ?_)
      clear hK K
      refine norm_ (a' := ?_) ?_ ?_
      rotate_left
      · show Act.put _ (some 14) _ = _
        simp only [Act.put, List.setIfInBounds_toArray, List.set_cons_zero, List.set_cons_succ, i64_w, i32_w]
        rfl
      refine one_ (i := 3) (N := some 16) #[true, true, true, true, false, false] rfl rfl (by kernel_rfl) (by decide) (fun K hK => ?_)
      refine goes_ Try.func34 (by kernel_rfl) rfl #[.agg #[.int .i64 a1_0, .slice A1_1 l1_1.length c1_1]] (by rfl) rfl rfl (by (try simp only [List.map_toArray, List.map_cons, List.map_nil]); first | done | rfl | (simp only [List.length_drop, List.length_take]; rfl)) ?_
      with_reducible refine (term_Size.calls a1_0 _ _ l1_1 t270 _ ?side1 ?side2 A6.out).mono ?_
      (case side1 => repeat (first | exact (Kd.C_below HR1_1.out HB.out) | (with_reducible refine Kd.C_alloc ?_ _) | (with_reducible refine Kd.C_drewN ?_ _) | (with_reducible refine Kd.C_drew ?_)))
      (case side2 => exact HC1_1.out)
      rintro e w71 ⟨rfl, hb⟩
      refine ⟨_, rfl, ?_⟩
      have n0_ := Aside0.mk (blk_below (g := gb266) (o := .cells #[.int .i64 a0_0, .slice A0_1 l0_1.length c0_1] 30 (0, 0)) (by (with_reducible repeat (first | refine blk_drewN ?_ _ | refine blk_drew ?_ | refine blk_alloc ?_ _)); exact BK266.out) hb)
      have n1_ := Aside0.mk (blk_below (g := gb267) (o := .cells #[.int .i64 a1_0, .slice A1_1 l1_1.length c1_1] 30 (0, 0)) (by (with_reducible repeat (first | refine blk_drewN ?_ _ | refine blk_drew ?_ | refine blk_alloc ?_ _)); exact BK267.out) hb)
      have n2_ := Aside0.mk (below_step (by repeat (first | (with_reducible first | exact HB.out | apply below_alloc | apply pw_below_drewN | apply below_drew1 | refine below_set ?_ GE266.out | refine below_set ?_ GE267.out) | exact HB.out)) hb)
      clear BK266
      clear BK267
      clear HB
      have BK266 := n0_
      have BK267 := n1_
      have HB := n2_
      clear n0_ n1_ n2_
      (try clear hb)
      (try clear hb2)
      (try clear hk)
      (try clear hi)
      refine hK.out _ _ ⟨(blk_cell BK266.out 0).trans rfl, (blk_cell BK266.out 1).trans rfl, (blk_cell BK267.out 0).trans rfl, (blk_cell BK267.out 1).trans rfl⟩ (fun hHeld => ?_)
      clear hK K
      refine norm_ (a' := ?_) ?_ ?_
      rotate_left
      · show Act.put _ (some 16) _ = _
        simp only [Act.put, List.setIfInBounds_toArray, List.set_cons_zero, List.set_cons_succ, i64_w, i32_w]
        rfl
      refine one_ (i := 4) (N := some 17) #[true, true, true, true, true, false] rfl rfl (by kernel_rfl) (by decide) (fun K hK => ?_)
      refine goes_ Try.func76 (by kernel_rfl) rfl #[.int .i64 t269, .int .i64 t270] (by rfl) rfl rfl (by (try simp only [List.map_toArray, List.map_cons, List.map_nil]); first | done | rfl | (simp only [List.length_drop, List.length_take]; rfl)) ?_
      with_reducible refine (cmp_Compare_int.calls t269 t270 t271 _ A7.out).mono ?_
      rintro e w' ⟨rfl, ⟨nd, rfl⟩⟩
      refine ⟨_, rfl, ?_⟩
      refine hK.out _ _ ⟨(blk_cell BK266.out 0).trans rfl, (blk_cell BK266.out 1).trans rfl, (blk_cell BK267.out 0).trans rfl, (blk_cell BK267.out 1).trans rfl⟩ (fun hHeld => ?_)
      clear hK K
      refine norm_ (a' := ?_) ?_ ?_
      rotate_left
      · show Act.put _ (some 17) _ = _
        simp only [Act.put, List.setIfInBounds_toArray, List.set_cons_zero, List.set_cons_succ, i64_w, i32_w]
        rfl
      refine pure_ (i := 5) (N := some 5) (v := ?_) (a' := ?_) #[true, true, true, true, true, true] rfl rfl (by kernel_rfl) (fun _ _ _ h => h) (Or.inl ⟨by rfl, ?_⟩) ?_ ?_
      rotate_left
      · intro w'
        go_simp
        with_reducible rfl
      rotate_left
      · simp only [Act.put, List.setIfInBounds_toArray, List.set_cons_zero, List.set_cons_succ, i64_w, i32_w]
        rfl
      refine done_ (by kernel_rfl) ?_
      try go_wp2
      go_ret
      exact ⟨by first | rfl | (simp [errW_none, errW_some] <;> rfl) | (simp [*, errW_none, errW_some] <;> rfl), by repeat (first | (with_reducible first | exact HB.out | apply below_alloc | apply pw_below_drewN | apply below_drew1 | refine below_set ?_ GE266.out | refine below_set ?_ GE267.out) | exact HB.out)⟩
  · replace c4 := Bool.eq_false_iff.mpr c4
    subst c4
    have H1 : (some false) = some r := by rw [if_neg (show ¬ (false = true) by decide)] at H; exact H
    clear H
    have H := H1
    clear H1
    obtain rfl := Option.some.inj H
    go_enter Try.func41, Try.ntmps41
    go_wp2_with (first | ((with_reducible refine gate_dst (N := 2) rfl ?_); refine box_event ?hg (N := 2) ?hd (cs := #[.int .i64 a0_0, .slice A0_1 l0_1.length c0_1]) (t := 30) ?hr ?_; (case hd => rfl); (case hg => rfl); (case hr => first | (go_simp; done) | (go_simp; rfl)); intro gb266 hg w72 hbox hb; have n0_ := Aside0.mk (below_step (by repeat (first | (with_reducible first | exact HB.out | apply below_alloc | apply pw_below_drewN | apply below_drew1) | exact HB.out)) hb); have n1_ := Aside0.mk (hbox); have n2_ := Aside0.mk ((by rw [hg]; exact (below_size (by repeat (first | (with_reducible first | exact HB.out | apply below_alloc | apply pw_below_drewN | apply below_drew1) | exact HB.out))) : w.heap.size ≤ gb266)); have n3_ := Aside0.mk ((by rw [hg]; exact (below_size (by repeat (first | (with_reducible first | exact HB.out | apply below_alloc | apply pw_below_drewN | apply below_drew1) | exact HB.out))) : w.heap.size ≤ gb266)); clear HB; have HB := n0_; have BK266 := n1_; have GW266 := n2_; have GE266 := n3_; clear n0_ n1_ n2_ n3_; clear hb hbox hg) | ((with_reducible refine gate_dst (N := 3) rfl ?_); refine box_event ?hg (N := 3) ?hd (cs := #[.int .i64 a1_0, .slice A1_1 l1_1.length c1_1]) (t := 30) ?hr ?_; (case hd => rfl); (case hg => rfl); (case hr => first | (go_simp; done) | (go_simp; rfl)); intro gb267 hg w73 hbox hb; have n0_ := Aside0.mk (blk_below (g := gb266) (o := .cells #[.int .i64 a0_0, .slice A0_1 l0_1.length c0_1] 30 (0, 0)) (by (with_reducible repeat (first | refine blk_drewN ?_ _ | refine blk_drew ?_ | refine blk_alloc ?_ _)); exact BK266.out) hb); have n1_ := Aside0.mk (below_step (by repeat (first | (with_reducible first | exact HB.out | apply below_alloc | apply pw_below_drewN | apply below_drew1 | refine below_set ?_ GE266.out) | exact HB.out)) hb); have n2_ := Aside0.mk (hbox); have n3_ := Aside0.mk ((by rw [hg]; exact (below_size (by repeat (first | (with_reducible first | exact HB.out | apply below_alloc | apply pw_below_drewN | apply below_drew1 | refine below_set ?_ GE266.out) | exact HB.out))) : w.heap.size ≤ gb267)); have n4_ := Aside0.mk ((by rw [hg]; exact (below_size (by repeat (first | (with_reducible first | exact HB.out | apply below_alloc | apply pw_below_drewN | apply below_drew1 | refine below_set ?_ GE266.out) | exact HB.out))) : w.heap.size ≤ gb267)); have n5_ := Aside0.mk ((by rw [hg]; exact Nat.ne_of_lt (blk_lt (g := gb266) (o := .cells #[.int .i64 a0_0, .slice A0_1 l0_1.length c0_1] 30 (0, 0)) (by (with_reducible repeat (first | refine blk_drewN ?_ _ | refine blk_drew ?_ | refine blk_alloc ?_ _)); exact BK266.out)) : gb266 ≠ gb267)); have n6_ := Aside0.mk ((by rw [hg]; exact Nat.ne_of_gt (blk_lt (g := gb266) (o := .cells #[.int .i64 a0_0, .slice A0_1 l0_1.length c0_1] 30 (0, 0)) (by (with_reducible repeat (first | refine blk_drewN ?_ _ | refine blk_drew ?_ | refine blk_alloc ?_ _)); exact BK266.out)) : gb267 ≠ gb266)); clear BK266; clear HB; have BK266 := n0_; have HB := n1_; have BK267 := n2_; have GW267 := n3_; have GE267 := n4_; have NB266_267 := n5_; have NB267_266 := n6_; clear n0_ n1_ n2_ n3_ n4_ n5_ n6_; clear hb hbox hg; have hnb74 := NB266_267.out; have hnc74 := NB267_266.out; have hcz75_0 : w73.cell? ⟨gb266, 0, none⟩ = some (.int .i64 a0_0) := (blk_cell BK266.out 0).trans rfl; have hcz75_1 : w73.cell? ⟨gb266, 1, none⟩ = some (.slice A0_1 l0_1.length c0_1) := (blk_cell BK266.out 1).trans rfl; have hfz75_0 := blk_frozen BK266.out 0; have hfz75_1 := blk_frozen BK266.out 1; have hcz76_0 : w73.cell? ⟨gb267, 0, none⟩ = some (.int .i64 a1_0) := (blk_cell BK267.out 0).trans rfl; have hcz76_1 : w73.cell? ⟨gb267, 1, none⟩ = some (.slice A1_1 l1_1.length c1_1) := (blk_cell BK267.out 1).trans rfl; have hfz76_0 := blk_frozen BK267.out 0; have hfz76_1 := blk_frozen BK267.out 1) | ((with_reducible refine gate_callee (f := 45) rfl ?_); refine goesL_ (some 11) rfl rfl Try.func45 (by kernel_rfl) rfl #[.agg #[.int .i64 a0_0, .slice A0_1 l0_1.length c0_1], .agg #[.int .i64 a1_0, .slice A1_1 l1_1.length c1_1]] rfl (by (try simp only [List.map_toArray, List.map_cons, List.map_nil]); first | done | rfl | (simp only [List.length_drop, List.length_take]; rfl)) ?_; (with_reducible refine (kbo_Covers.calls a0_0 _ _ l0_1 a1_0 _ _ l1_1 false _ ?side1 ?side2 ?side3 ?side4 A3.out).mono ?_); (case side1 => repeat (first | exact (Kd.C_below HR0_1.out HB.out) | (with_reducible refine Kd.C_alloc ?_ _) | (with_reducible refine Kd.C_drewN ?_ _) | (with_reducible refine Kd.C_drew ?_))); (case side2 => exact HC0_1.out); (case side3 => repeat (first | exact (Kd.C_below HR1_1.out HB.out) | (with_reducible refine Kd.C_alloc ?_ _) | (with_reducible refine Kd.C_drewN ?_ _) | (with_reducible refine Kd.C_drew ?_))); (case side4 => exact HC1_1.out); rintro e w77 ⟨rfl, hb⟩; refine ⟨_, rfl, ?_⟩; have n0_ := Aside0.mk (blk_below (g := gb266) (o := .cells #[.int .i64 a0_0, .slice A0_1 l0_1.length c0_1] 30 (0, 0)) (by (with_reducible repeat (first | refine blk_drewN ?_ _ | refine blk_drew ?_ | refine blk_alloc ?_ _)); exact BK266.out) hb); have n1_ := Aside0.mk (blk_below (g := gb267) (o := .cells #[.int .i64 a1_0, .slice A1_1 l1_1.length c1_1] 30 (0, 0)) (by (with_reducible repeat (first | refine blk_drewN ?_ _ | refine blk_drew ?_ | refine blk_alloc ?_ _)); exact BK267.out) hb); have n2_ := Aside0.mk (below_step (by repeat (first | (with_reducible first | exact HB.out | apply below_alloc | apply pw_below_drewN | apply below_drew1 | refine below_set ?_ GE266.out | refine below_set ?_ GE267.out) | exact HB.out)) hb); clear BK266; clear BK267; clear HB; have BK266 := n0_; have BK267 := n1_; have HB := n2_; clear n0_ n1_ n2_; (try clear hb); (try clear hb2); (try clear hk); (try clear hi)))
    go_ret
    exact ⟨by first | rfl | (simp [errW_none, errW_some] <;> rfl) | (simp [*, errW_none, errW_some] <;> rfl), by repeat (first | (with_reducible first | exact HB.out | apply below_alloc | apply pw_below_drewN | apply below_drew1 | refine below_set ?_ GE266.out | refine below_set ?_ GE267.out) | exact HB.out)⟩
end Go.Proofs.Ytpfddihcikiofaa.P
end

section
namespace Go.Proofs.Ytpfddihcikiofaa.P
open Go.RowKit Go.Proofs.YtpfddihcikiofaaW.PrintWords Go.Proofs.YtpfddihcikiofaaW.PrintLast Go.Proofs.YtpfddihcikiofaaW.PrintMore
attribute [local go_sem] max2_int min2_int max_two min_two max_three min_three max_four min_four
set_option linter.unusedVariables false
set_option linter.unusedSimpArgs false
def kbo_Compare.f (k : Nat) (a0_0 : Int) (l0_1 : List (S30)) (a1_0 : Int) (l1_1 : List (S30)) : Option (Int) := (term_Same.f a0_0 l0_1 a1_0 l1_1).bind fun t286 => (if t286 = true then (some 0) else ((kbo_Greater.f k a0_0 l0_1 a1_0 l1_1).bind fun t287 => (if t287 = true then (some 1) else ((kbo_Greater.f k a1_0 l1_1 a0_0 l0_1).bind fun t288 => (if t288 = true then (some (-1)) else (some 2))))))
set_option maxHeartbeats 8000000 in
set_option maxRecDepth 100000 in
theorem kbo_Compare.calls (k : Nat) (a0_0 : Int) (A0_1 : Option Addr) (c0_1 : Nat) (l0_1 : List (S30)) (a1_0 : Int) (A1_1 : Option Addr) (c1_1 : Nat) (l1_1 : List (S30)) (r : Int) (w : World) (hr0_1 : Kd.C k30 w A0_1 l0_1.length l0_1) (hc0_1 : l0_1.length ≤ c0_1) (hr1_1 : Kd.C k30 w A1_1 l1_1.length l1_1) (hc1_1 : l1_1.length ≤ c1_1) (h : kbo_Compare.f k a0_0 l0_1 a1_0 l1_1 = some r) :
    Calls Try.prog 43 #[.agg #[.int .i64 a0_0, .slice A0_1 l0_1.length c0_1], .agg #[.int .i64 a1_0, .slice A1_1 l1_1.length c1_1]] w fun e w' => e = .returned (.int .i64 r) ∧ Below w.heap.size w w' := by
  have hu30 := Try.underlying30
  have HR0_1 := Aside0.mk hr0_1
  have HC0_1 := Aside0.mk hc0_1
  clear hr0_1 hc0_1
  have HR1_1 := Aside0.mk hr1_1
  have HC1_1 := Aside0.mk hc1_1
  clear hr1_1 hc1_1
  have HB := Aside0.mk (Below.refl w.heap.size w)
  have H : ((term_Same.f a0_0 l0_1 a1_0 l1_1).bind fun t286 => (if t286 = true then (some 0) else ((kbo_Greater.f k a0_0 l0_1 a1_0 l1_1).bind fun t287 => (if t287 = true then (some 1) else ((kbo_Greater.f k a1_0 l1_1 a0_0 l0_1).bind fun t288 => (if t288 = true then (some (-1)) else (some 2))))))) = some r := h
  clear h
  replace H := Option.bind_eq_some_iff.mp H
  obtain ⟨t286, A30, H⟩ := H
  replace H : (if t286 = true then (some 0) else ((kbo_Greater.f k a0_0 l0_1 a1_0 l1_1).bind fun t287 => (if t287 = true then (some 1) else ((kbo_Greater.f k a1_0 l1_1 a0_0 l0_1).bind fun t288 => (if t288 = true then (some (-1)) else (some 2)))))) = some r := H
  have A3 := Aside0.mk A30
  clear A30
  by_cases c4 : t286 = true
  · subst c4
    have H1 : (some 0) = some r := by rw [if_pos rfl] at H; exact H
    clear H
    have H := H1
    clear H1
    obtain rfl := Option.some.inj H
    go_enter Try.func43, Try.ntmps43
    go_wp2_with (first | ((with_reducible refine gate_dst (N := 2) rfl ?_); refine box_event ?hg (N := 2) ?hd (cs := #[.int .i64 a0_0, .slice A0_1 l0_1.length c0_1]) (t := 30) ?hr ?_; (case hd => rfl); (case hg => rfl); (case hr => first | (go_simp; done) | (go_simp; rfl)); intro gb284 hg w5 hbox hb; have n0_ := Aside0.mk (below_step (by repeat (first | (with_reducible first | exact HB.out | apply below_alloc | apply pw_below_drewN | apply below_drew1) | exact HB.out)) hb); have n1_ := Aside0.mk (hbox); have n2_ := Aside0.mk ((by rw [hg]; exact (below_size (by repeat (first | (with_reducible first | exact HB.out | apply below_alloc | apply pw_below_drewN | apply below_drew1) | exact HB.out))) : w.heap.size ≤ gb284)); have n3_ := Aside0.mk ((by rw [hg]; exact (below_size (by repeat (first | (with_reducible first | exact HB.out | apply below_alloc | apply pw_below_drewN | apply below_drew1) | exact HB.out))) : w.heap.size ≤ gb284)); clear HB; have HB := n0_; have BK284 := n1_; have GW284 := n2_; have GE284 := n3_; clear n0_ n1_ n2_ n3_; clear hb hbox hg) | ((with_reducible refine gate_dst (N := 3) rfl ?_); refine box_event ?hg (N := 3) ?hd (cs := #[.int .i64 a1_0, .slice A1_1 l1_1.length c1_1]) (t := 30) ?hr ?_; (case hd => rfl); (case hg => rfl); (case hr => first | (go_simp; done) | (go_simp; rfl)); intro gb285 hg w6 hbox hb; have n0_ := Aside0.mk (blk_below (g := gb284) (o := .cells #[.int .i64 a0_0, .slice A0_1 l0_1.length c0_1] 30 (0, 0)) (by (with_reducible repeat (first | refine blk_drewN ?_ _ | refine blk_drew ?_ | refine blk_alloc ?_ _)); exact BK284.out) hb); have n1_ := Aside0.mk (below_step (by repeat (first | (with_reducible first | exact HB.out | apply below_alloc | apply pw_below_drewN | apply below_drew1 | refine below_set ?_ GE284.out) | exact HB.out)) hb); have n2_ := Aside0.mk (hbox); have n3_ := Aside0.mk ((by rw [hg]; exact (below_size (by repeat (first | (with_reducible first | exact HB.out | apply below_alloc | apply pw_below_drewN | apply below_drew1 | refine below_set ?_ GE284.out) | exact HB.out))) : w.heap.size ≤ gb285)); have n4_ := Aside0.mk ((by rw [hg]; exact (below_size (by repeat (first | (with_reducible first | exact HB.out | apply below_alloc | apply pw_below_drewN | apply below_drew1 | refine below_set ?_ GE284.out) | exact HB.out))) : w.heap.size ≤ gb285)); have n5_ := Aside0.mk ((by rw [hg]; exact Nat.ne_of_lt (blk_lt (g := gb284) (o := .cells #[.int .i64 a0_0, .slice A0_1 l0_1.length c0_1] 30 (0, 0)) (by (with_reducible repeat (first | refine blk_drewN ?_ _ | refine blk_drew ?_ | refine blk_alloc ?_ _)); exact BK284.out)) : gb284 ≠ gb285)); have n6_ := Aside0.mk ((by rw [hg]; exact Nat.ne_of_gt (blk_lt (g := gb284) (o := .cells #[.int .i64 a0_0, .slice A0_1 l0_1.length c0_1] 30 (0, 0)) (by (with_reducible repeat (first | refine blk_drewN ?_ _ | refine blk_drew ?_ | refine blk_alloc ?_ _)); exact BK284.out)) : gb285 ≠ gb284)); clear BK284; clear HB; have BK284 := n0_; have HB := n1_; have BK285 := n2_; have GW285 := n3_; have GE285 := n4_; have NB284_285 := n5_; have NB285_284 := n6_; clear n0_ n1_ n2_ n3_ n4_ n5_ n6_; clear hb hbox hg; have hnb7 := NB284_285.out; have hnc7 := NB285_284.out; have hcz8_0 : w6.cell? ⟨gb284, 0, none⟩ = some (.int .i64 a0_0) := (blk_cell BK284.out 0).trans rfl; have hcz8_1 : w6.cell? ⟨gb284, 1, none⟩ = some (.slice A0_1 l0_1.length c0_1) := (blk_cell BK284.out 1).trans rfl; have hfz8_0 := blk_frozen BK284.out 0; have hfz8_1 := blk_frozen BK284.out 1; have hcz9_0 : w6.cell? ⟨gb285, 0, none⟩ = some (.int .i64 a1_0) := (blk_cell BK285.out 0).trans rfl; have hcz9_1 : w6.cell? ⟨gb285, 1, none⟩ = some (.slice A1_1 l1_1.length c1_1) := (blk_cell BK285.out 1).trans rfl; have hfz9_0 := blk_frozen BK285.out 0; have hfz9_1 := blk_frozen BK285.out 1) | ((with_reducible refine gate_callee (f := 37) rfl ?_); refine goesL_ (some 8) rfl rfl Try.func37 (by kernel_rfl) rfl #[.agg #[.int .i64 a0_0, .slice A0_1 l0_1.length c0_1], .agg #[.int .i64 a1_0, .slice A1_1 l1_1.length c1_1]] rfl (by (try simp only [List.map_toArray, List.map_cons, List.map_nil]); first | done | rfl | (simp only [List.length_drop, List.length_take]; rfl)) ?_; (with_reducible refine (term_Same.calls a0_0 _ _ l0_1 a1_0 _ _ l1_1 true _ ?side1 ?side2 ?side3 ?side4 A3.out).mono ?_); (case side1 => repeat (first | exact (Kd.C_below HR0_1.out HB.out) | (with_reducible refine Kd.C_alloc ?_ _) | (with_reducible refine Kd.C_drewN ?_ _) | (with_reducible refine Kd.C_drew ?_))); (case side2 => exact HC0_1.out); (case side3 => repeat (first | exact (Kd.C_below HR1_1.out HB.out) | (with_reducible refine Kd.C_alloc ?_ _) | (with_reducible refine Kd.C_drewN ?_ _) | (with_reducible refine Kd.C_drew ?_))); (case side4 => exact HC1_1.out); rintro e w10 ⟨rfl, hb⟩; refine ⟨_, rfl, ?_⟩; have n0_ := Aside0.mk (blk_below (g := gb284) (o := .cells #[.int .i64 a0_0, .slice A0_1 l0_1.length c0_1] 30 (0, 0)) (by (with_reducible repeat (first | refine blk_drewN ?_ _ | refine blk_drew ?_ | refine blk_alloc ?_ _)); exact BK284.out) hb); have n1_ := Aside0.mk (blk_below (g := gb285) (o := .cells #[.int .i64 a1_0, .slice A1_1 l1_1.length c1_1] 30 (0, 0)) (by (with_reducible repeat (first | refine blk_drewN ?_ _ | refine blk_drew ?_ | refine blk_alloc ?_ _)); exact BK285.out) hb); have n2_ := Aside0.mk (below_step (by repeat (first | (with_reducible first | exact HB.out | apply below_alloc | apply pw_below_drewN | apply below_drew1 | refine below_set ?_ GE284.out | refine below_set ?_ GE285.out) | exact HB.out)) hb); clear BK284; clear BK285; clear HB; have BK284 := n0_; have BK285 := n1_; have HB := n2_; clear n0_ n1_ n2_; (try clear hb); (try clear hb2); (try clear hk); (try clear hi)))
    go_ret
    exact ⟨by first | rfl | (simp [errW_none, errW_some] <;> rfl) | (simp [*, errW_none, errW_some] <;> rfl), by repeat (first | (with_reducible first | exact HB.out | apply below_alloc | apply pw_below_drewN | apply below_drew1 | refine below_set ?_ GE284.out | refine below_set ?_ GE285.out) | exact HB.out)⟩
  · replace c4 := Bool.eq_false_iff.mpr c4
    subst c4
    have H1 : ((kbo_Greater.f k a0_0 l0_1 a1_0 l1_1).bind fun t287 => (if t287 = true then (some 1) else ((kbo_Greater.f k a1_0 l1_1 a0_0 l0_1).bind fun t288 => (if t288 = true then (some (-1)) else (some 2))))) = some r := by rw [if_neg (show ¬ (false = true) by decide)] at H; exact H
    clear H
    have H := H1
    clear H1
    replace H := Option.bind_eq_some_iff.mp H
    obtain ⟨t287, A110, H⟩ := H
    replace H : (if t287 = true then (some 1) else ((kbo_Greater.f k a1_0 l1_1 a0_0 l0_1).bind fun t288 => (if t288 = true then (some (-1)) else (some 2)))) = some r := H
    have A11 := Aside0.mk A110
    clear A110
    by_cases c12 : t287 = true
    · subst c12
      have H1 : (some 1) = some r := by rw [if_pos rfl] at H; exact H
      clear H
      have H := H1
      clear H1
      obtain rfl := Option.some.inj H
      go_enter Try.func43, Try.ntmps43
      go_wp2_with (first | ((with_reducible refine gate_dst (N := 2) rfl ?_); refine box_event ?hg (N := 2) ?hd (cs := #[.int .i64 a0_0, .slice A0_1 l0_1.length c0_1]) (t := 30) ?hr ?_; (case hd => rfl); (case hg => rfl); (case hr => first | (go_simp; done) | (go_simp; rfl)); intro gb284 hg w13 hbox hb; have n0_ := Aside0.mk (below_step (by repeat (first | (with_reducible first | exact HB.out | apply below_alloc | apply pw_below_drewN | apply below_drew1) | exact HB.out)) hb); have n1_ := Aside0.mk (hbox); have n2_ := Aside0.mk ((by rw [hg]; exact (below_size (by repeat (first | (with_reducible first | exact HB.out | apply below_alloc | apply pw_below_drewN | apply below_drew1) | exact HB.out))) : w.heap.size ≤ gb284)); have n3_ := Aside0.mk ((by rw [hg]; exact (below_size (by repeat (first | (with_reducible first | exact HB.out | apply below_alloc | apply pw_below_drewN | apply below_drew1) | exact HB.out))) : w.heap.size ≤ gb284)); clear HB; have HB := n0_; have BK284 := n1_; have GW284 := n2_; have GE284 := n3_; clear n0_ n1_ n2_ n3_; clear hb hbox hg) | ((with_reducible refine gate_dst (N := 3) rfl ?_); refine box_event ?hg (N := 3) ?hd (cs := #[.int .i64 a1_0, .slice A1_1 l1_1.length c1_1]) (t := 30) ?hr ?_; (case hd => rfl); (case hg => rfl); (case hr => first | (go_simp; done) | (go_simp; rfl)); intro gb285 hg w14 hbox hb; have n0_ := Aside0.mk (blk_below (g := gb284) (o := .cells #[.int .i64 a0_0, .slice A0_1 l0_1.length c0_1] 30 (0, 0)) (by (with_reducible repeat (first | refine blk_drewN ?_ _ | refine blk_drew ?_ | refine blk_alloc ?_ _)); exact BK284.out) hb); have n1_ := Aside0.mk (below_step (by repeat (first | (with_reducible first | exact HB.out | apply below_alloc | apply pw_below_drewN | apply below_drew1 | refine below_set ?_ GE284.out) | exact HB.out)) hb); have n2_ := Aside0.mk (hbox); have n3_ := Aside0.mk ((by rw [hg]; exact (below_size (by repeat (first | (with_reducible first | exact HB.out | apply below_alloc | apply pw_below_drewN | apply below_drew1 | refine below_set ?_ GE284.out) | exact HB.out))) : w.heap.size ≤ gb285)); have n4_ := Aside0.mk ((by rw [hg]; exact (below_size (by repeat (first | (with_reducible first | exact HB.out | apply below_alloc | apply pw_below_drewN | apply below_drew1 | refine below_set ?_ GE284.out) | exact HB.out))) : w.heap.size ≤ gb285)); have n5_ := Aside0.mk ((by rw [hg]; exact Nat.ne_of_lt (blk_lt (g := gb284) (o := .cells #[.int .i64 a0_0, .slice A0_1 l0_1.length c0_1] 30 (0, 0)) (by (with_reducible repeat (first | refine blk_drewN ?_ _ | refine blk_drew ?_ | refine blk_alloc ?_ _)); exact BK284.out)) : gb284 ≠ gb285)); have n6_ := Aside0.mk ((by rw [hg]; exact Nat.ne_of_gt (blk_lt (g := gb284) (o := .cells #[.int .i64 a0_0, .slice A0_1 l0_1.length c0_1] 30 (0, 0)) (by (with_reducible repeat (first | refine blk_drewN ?_ _ | refine blk_drew ?_ | refine blk_alloc ?_ _)); exact BK284.out)) : gb285 ≠ gb284)); clear BK284; clear HB; have BK284 := n0_; have HB := n1_; have BK285 := n2_; have GW285 := n3_; have GE285 := n4_; have NB284_285 := n5_; have NB285_284 := n6_; clear n0_ n1_ n2_ n3_ n4_ n5_ n6_; clear hb hbox hg; have hnb15 := NB284_285.out; have hnc15 := NB285_284.out; have hcz16_0 : w14.cell? ⟨gb284, 0, none⟩ = some (.int .i64 a0_0) := (blk_cell BK284.out 0).trans rfl; have hcz16_1 : w14.cell? ⟨gb284, 1, none⟩ = some (.slice A0_1 l0_1.length c0_1) := (blk_cell BK284.out 1).trans rfl; have hfz16_0 := blk_frozen BK284.out 0; have hfz16_1 := blk_frozen BK284.out 1; have hcz17_0 : w14.cell? ⟨gb285, 0, none⟩ = some (.int .i64 a1_0) := (blk_cell BK285.out 0).trans rfl; have hcz17_1 : w14.cell? ⟨gb285, 1, none⟩ = some (.slice A1_1 l1_1.length c1_1) := (blk_cell BK285.out 1).trans rfl; have hfz17_0 := blk_frozen BK285.out 0; have hfz17_1 := blk_frozen BK285.out 1) | ((with_reducible refine gate_callee (f := 37) rfl ?_); refine goesL_ (some 8) rfl rfl Try.func37 (by kernel_rfl) rfl #[.agg #[.int .i64 a0_0, .slice A0_1 l0_1.length c0_1], .agg #[.int .i64 a1_0, .slice A1_1 l1_1.length c1_1]] rfl (by (try simp only [List.map_toArray, List.map_cons, List.map_nil]); first | done | rfl | (simp only [List.length_drop, List.length_take]; rfl)) ?_; (with_reducible refine (term_Same.calls a0_0 _ _ l0_1 a1_0 _ _ l1_1 false _ ?side1 ?side2 ?side3 ?side4 A3.out).mono ?_); (case side1 => repeat (first | exact (Kd.C_below HR0_1.out HB.out) | (with_reducible refine Kd.C_alloc ?_ _) | (with_reducible refine Kd.C_drewN ?_ _) | (with_reducible refine Kd.C_drew ?_))); (case side2 => exact HC0_1.out); (case side3 => repeat (first | exact (Kd.C_below HR1_1.out HB.out) | (with_reducible refine Kd.C_alloc ?_ _) | (with_reducible refine Kd.C_drewN ?_ _) | (with_reducible refine Kd.C_drew ?_))); (case side4 => exact HC1_1.out); rintro e w18 ⟨rfl, hb⟩; refine ⟨_, rfl, ?_⟩; have n0_ := Aside0.mk (blk_below (g := gb284) (o := .cells #[.int .i64 a0_0, .slice A0_1 l0_1.length c0_1] 30 (0, 0)) (by (with_reducible repeat (first | refine blk_drewN ?_ _ | refine blk_drew ?_ | refine blk_alloc ?_ _)); exact BK284.out) hb); have n1_ := Aside0.mk (blk_below (g := gb285) (o := .cells #[.int .i64 a1_0, .slice A1_1 l1_1.length c1_1] 30 (0, 0)) (by (with_reducible repeat (first | refine blk_drewN ?_ _ | refine blk_drew ?_ | refine blk_alloc ?_ _)); exact BK285.out) hb); have n2_ := Aside0.mk (below_step (by repeat (first | (with_reducible first | exact HB.out | apply below_alloc | apply pw_below_drewN | apply below_drew1 | refine below_set ?_ GE284.out | refine below_set ?_ GE285.out) | exact HB.out)) hb); clear BK284; clear BK285; clear HB; have BK284 := n0_; have BK285 := n1_; have HB := n2_; clear n0_ n1_ n2_; (try clear hb); (try clear hb2); (try clear hk); (try clear hi); have hcz19_0 : w18.cell? ⟨gb284, 0, none⟩ = some (.int .i64 a0_0) := (blk_cell BK284.out 0).trans rfl; have hcz19_1 : w18.cell? ⟨gb284, 1, none⟩ = some (.slice A0_1 l0_1.length c0_1) := (blk_cell BK284.out 1).trans rfl; have hfz19_0 := blk_frozen BK284.out 0; have hfz19_1 := blk_frozen BK284.out 1; have hcz20_0 : w18.cell? ⟨gb285, 0, none⟩ = some (.int .i64 a1_0) := (blk_cell BK285.out 0).trans rfl; have hcz20_1 : w18.cell? ⟨gb285, 1, none⟩ = some (.slice A1_1 l1_1.length c1_1) := (blk_cell BK285.out 1).trans rfl; have hfz20_0 := blk_frozen BK285.out 0; have hfz20_1 := blk_frozen BK285.out 1) | ((with_reducible refine gate_callee (f := 41) rfl ?_); refine goesL_ (some 12) rfl rfl Try.func41 (by kernel_rfl) rfl #[.agg #[.int .i64 a0_0, .slice A0_1 l0_1.length c0_1], .agg #[.int .i64 a1_0, .slice A1_1 l1_1.length c1_1]] rfl (by (try simp only [List.map_toArray, List.map_cons, List.map_nil]); first | done | rfl | (simp only [List.length_drop, List.length_take]; rfl)) ?_; (with_reducible refine (kbo_Greater.calls k a0_0 _ _ l0_1 a1_0 _ _ l1_1 true _ ?side1 ?side2 ?side3 ?side4 A11.out).mono ?_); (case side1 => repeat (first | exact (Kd.C_below HR0_1.out HB.out) | (with_reducible refine Kd.C_alloc ?_ _) | (with_reducible refine Kd.C_drewN ?_ _) | (with_reducible refine Kd.C_drew ?_))); (case side2 => exact HC0_1.out); (case side3 => repeat (first | exact (Kd.C_below HR1_1.out HB.out) | (with_reducible refine Kd.C_alloc ?_ _) | (with_reducible refine Kd.C_drewN ?_ _) | (with_reducible refine Kd.C_drew ?_))); (case side4 => exact HC1_1.out); rintro e w21 ⟨rfl, hb⟩; refine ⟨_, rfl, ?_⟩; have n0_ := Aside0.mk (blk_below (g := gb284) (o := .cells #[.int .i64 a0_0, .slice A0_1 l0_1.length c0_1] 30 (0, 0)) (by (with_reducible repeat (first | refine blk_drewN ?_ _ | refine blk_drew ?_ | refine blk_alloc ?_ _)); exact BK284.out) hb); have n1_ := Aside0.mk (blk_below (g := gb285) (o := .cells #[.int .i64 a1_0, .slice A1_1 l1_1.length c1_1] 30 (0, 0)) (by (with_reducible repeat (first | refine blk_drewN ?_ _ | refine blk_drew ?_ | refine blk_alloc ?_ _)); exact BK285.out) hb); have n2_ := Aside0.mk (below_step (by repeat (first | (with_reducible first | exact HB.out | apply below_alloc | apply pw_below_drewN | apply below_drew1 | refine below_set ?_ GE284.out | refine below_set ?_ GE285.out) | exact HB.out)) hb); clear BK284; clear BK285; clear HB; have BK284 := n0_; have BK285 := n1_; have HB := n2_; clear n0_ n1_ n2_; (try clear hb); (try clear hb2); (try clear hk); (try clear hi)))
      go_ret
      exact ⟨by first | rfl | (simp [errW_none, errW_some] <;> rfl) | (simp [*, errW_none, errW_some] <;> rfl), by repeat (first | (with_reducible first | exact HB.out | apply below_alloc | apply pw_below_drewN | apply below_drew1 | refine below_set ?_ GE284.out | refine below_set ?_ GE285.out) | exact HB.out)⟩
    · replace c12 := Bool.eq_false_iff.mpr c12
      subst c12
      have H1 : ((kbo_Greater.f k a1_0 l1_1 a0_0 l0_1).bind fun t288 => (if t288 = true then (some (-1)) else (some 2))) = some r := by rw [if_neg (show ¬ (false = true) by decide)] at H; exact H
      clear H
      have H := H1
      clear H1
      replace H := Option.bind_eq_some_iff.mp H
      obtain ⟨t288, A220, H⟩ := H
      replace H : (if t288 = true then (some (-1)) else (some 2)) = some r := H
      have A22 := Aside0.mk A220
      clear A220
      by_cases c23 : t288 = true
      · subst c23
        have H1 : (some (-1)) = some r := by rw [if_pos rfl] at H; exact H
        clear H
        have H := H1
        clear H1
        obtain rfl := Option.some.inj H
        go_enter Try.func43, Try.ntmps43
        go_wp2_with (first | ((with_reducible refine gate_dst (N := 2) rfl ?_); refine box_event ?hg (N := 2) ?hd (cs := #[.int .i64 a0_0, .slice A0_1 l0_1.length c0_1]) (t := 30) ?hr ?_; (case hd => rfl); (case hg => rfl); (case hr => first | (go_simp; done) | (go_simp; rfl)); intro gb284 hg w24 hbox hb; have n0_ := Aside0.mk (below_step (by repeat (first | (with_reducible first | exact HB.out | apply below_alloc | apply pw_below_drewN | apply below_drew1) | exact HB.out)) hb); have n1_ := Aside0.mk (hbox); have n2_ := Aside0.mk ((by rw [hg]; exact (below_size (by repeat (first | (with_reducible first | exact HB.out | apply below_alloc | apply pw_below_drewN | apply below_drew1) | exact HB.out))) : w.heap.size ≤ gb284)); have n3_ := Aside0.mk ((by rw [hg]; exact (below_size (by repeat (first | (with_reducible first | exact HB.out | apply below_alloc | apply pw_below_drewN | apply below_drew1) | exact HB.out))) : w.heap.size ≤ gb284)); clear HB; have HB := n0_; have BK284 := n1_; have GW284 := n2_; have GE284 := n3_; clear n0_ n1_ n2_ n3_; clear hb hbox hg) | ((with_reducible refine gate_dst (N := 3) rfl ?_); refine box_event ?hg (N := 3) ?hd (cs := #[.int .i64 a1_0, .slice A1_1 l1_1.length c1_1]) (t := 30) ?hr ?_; (case hd => rfl); (case hg => rfl); (case hr => first | (go_simp; done) | (go_simp; rfl)); intro gb285 hg w25 hbox hb; have n0_ := Aside0.mk (blk_below (g := gb284) (o := .cells #[.int .i64 a0_0, .slice A0_1 l0_1.length c0_1] 30 (0, 0)) (by (with_reducible repeat (first | refine blk_drewN ?_ _ | refine blk_drew ?_ | refine blk_alloc ?_ _)); exact BK284.out) hb); have n1_ := Aside0.mk (below_step (by repeat (first | (with_reducible first | exact HB.out | apply below_alloc | apply pw_below_drewN | apply below_drew1 | refine below_set ?_ GE284.out) | exact HB.out)) hb); have n2_ := Aside0.mk (hbox); have n3_ := Aside0.mk ((by rw [hg]; exact (below_size (by repeat (first | (with_reducible first | exact HB.out | apply below_alloc | apply pw_below_drewN | apply below_drew1 | refine below_set ?_ GE284.out) | exact HB.out))) : w.heap.size ≤ gb285)); have n4_ := Aside0.mk ((by rw [hg]; exact (below_size (by repeat (first | (with_reducible first | exact HB.out | apply below_alloc | apply pw_below_drewN | apply below_drew1 | refine below_set ?_ GE284.out) | exact HB.out))) : w.heap.size ≤ gb285)); have n5_ := Aside0.mk ((by rw [hg]; exact Nat.ne_of_lt (blk_lt (g := gb284) (o := .cells #[.int .i64 a0_0, .slice A0_1 l0_1.length c0_1] 30 (0, 0)) (by (with_reducible repeat (first | refine blk_drewN ?_ _ | refine blk_drew ?_ | refine blk_alloc ?_ _)); exact BK284.out)) : gb284 ≠ gb285)); have n6_ := Aside0.mk ((by rw [hg]; exact Nat.ne_of_gt (blk_lt (g := gb284) (o := .cells #[.int .i64 a0_0, .slice A0_1 l0_1.length c0_1] 30 (0, 0)) (by (with_reducible repeat (first | refine blk_drewN ?_ _ | refine blk_drew ?_ | refine blk_alloc ?_ _)); exact BK284.out)) : gb285 ≠ gb284)); clear BK284; clear HB; have BK284 := n0_; have HB := n1_; have BK285 := n2_; have GW285 := n3_; have GE285 := n4_; have NB284_285 := n5_; have NB285_284 := n6_; clear n0_ n1_ n2_ n3_ n4_ n5_ n6_; clear hb hbox hg; have hnb26 := NB284_285.out; have hnc26 := NB285_284.out; have hcz27_0 : w25.cell? ⟨gb284, 0, none⟩ = some (.int .i64 a0_0) := (blk_cell BK284.out 0).trans rfl; have hcz27_1 : w25.cell? ⟨gb284, 1, none⟩ = some (.slice A0_1 l0_1.length c0_1) := (blk_cell BK284.out 1).trans rfl; have hfz27_0 := blk_frozen BK284.out 0; have hfz27_1 := blk_frozen BK284.out 1; have hcz28_0 : w25.cell? ⟨gb285, 0, none⟩ = some (.int .i64 a1_0) := (blk_cell BK285.out 0).trans rfl; have hcz28_1 : w25.cell? ⟨gb285, 1, none⟩ = some (.slice A1_1 l1_1.length c1_1) := (blk_cell BK285.out 1).trans rfl; have hfz28_0 := blk_frozen BK285.out 0; have hfz28_1 := blk_frozen BK285.out 1) | ((with_reducible refine gate_callee (f := 37) rfl ?_); refine goesL_ (some 8) rfl rfl Try.func37 (by kernel_rfl) rfl #[.agg #[.int .i64 a0_0, .slice A0_1 l0_1.length c0_1], .agg #[.int .i64 a1_0, .slice A1_1 l1_1.length c1_1]] rfl (by (try simp only [List.map_toArray, List.map_cons, List.map_nil]); first | done | rfl | (simp only [List.length_drop, List.length_take]; rfl)) ?_; (with_reducible refine (term_Same.calls a0_0 _ _ l0_1 a1_0 _ _ l1_1 false _ ?side1 ?side2 ?side3 ?side4 A3.out).mono ?_); (case side1 => repeat (first | exact (Kd.C_below HR0_1.out HB.out) | (with_reducible refine Kd.C_alloc ?_ _) | (with_reducible refine Kd.C_drewN ?_ _) | (with_reducible refine Kd.C_drew ?_))); (case side2 => exact HC0_1.out); (case side3 => repeat (first | exact (Kd.C_below HR1_1.out HB.out) | (with_reducible refine Kd.C_alloc ?_ _) | (with_reducible refine Kd.C_drewN ?_ _) | (with_reducible refine Kd.C_drew ?_))); (case side4 => exact HC1_1.out); rintro e w29 ⟨rfl, hb⟩; refine ⟨_, rfl, ?_⟩; have n0_ := Aside0.mk (blk_below (g := gb284) (o := .cells #[.int .i64 a0_0, .slice A0_1 l0_1.length c0_1] 30 (0, 0)) (by (with_reducible repeat (first | refine blk_drewN ?_ _ | refine blk_drew ?_ | refine blk_alloc ?_ _)); exact BK284.out) hb); have n1_ := Aside0.mk (blk_below (g := gb285) (o := .cells #[.int .i64 a1_0, .slice A1_1 l1_1.length c1_1] 30 (0, 0)) (by (with_reducible repeat (first | refine blk_drewN ?_ _ | refine blk_drew ?_ | refine blk_alloc ?_ _)); exact BK285.out) hb); have n2_ := Aside0.mk (below_step (by repeat (first | (with_reducible first | exact HB.out | apply below_alloc | apply pw_below_drewN | apply below_drew1 | refine below_set ?_ GE284.out | refine below_set ?_ GE285.out) | exact HB.out)) hb); clear BK284; clear BK285; clear HB; have BK284 := n0_; have BK285 := n1_; have HB := n2_; clear n0_ n1_ n2_; (try clear hb); (try clear hb2); (try clear hk); (try clear hi); have hcz30_0 : w29.cell? ⟨gb284, 0, none⟩ = some (.int .i64 a0_0) := (blk_cell BK284.out 0).trans rfl; have hcz30_1 : w29.cell? ⟨gb284, 1, none⟩ = some (.slice A0_1 l0_1.length c0_1) := (blk_cell BK284.out 1).trans rfl; have hfz30_0 := blk_frozen BK284.out 0; have hfz30_1 := blk_frozen BK284.out 1; have hcz31_0 : w29.cell? ⟨gb285, 0, none⟩ = some (.int .i64 a1_0) := (blk_cell BK285.out 0).trans rfl; have hcz31_1 : w29.cell? ⟨gb285, 1, none⟩ = some (.slice A1_1 l1_1.length c1_1) := (blk_cell BK285.out 1).trans rfl; have hfz31_0 := blk_frozen BK285.out 0; have hfz31_1 := blk_frozen BK285.out 1) | ((with_reducible refine gate_callee (f := 41) rfl ?_); refine goesL_ (some 12) rfl rfl Try.func41 (by kernel_rfl) rfl #[.agg #[.int .i64 a0_0, .slice A0_1 l0_1.length c0_1], .agg #[.int .i64 a1_0, .slice A1_1 l1_1.length c1_1]] rfl (by (try simp only [List.map_toArray, List.map_cons, List.map_nil]); first | done | rfl | (simp only [List.length_drop, List.length_take]; rfl)) ?_; (with_reducible refine (kbo_Greater.calls k a0_0 _ _ l0_1 a1_0 _ _ l1_1 false _ ?side1 ?side2 ?side3 ?side4 A11.out).mono ?_); (case side1 => repeat (first | exact (Kd.C_below HR0_1.out HB.out) | (with_reducible refine Kd.C_alloc ?_ _) | (with_reducible refine Kd.C_drewN ?_ _) | (with_reducible refine Kd.C_drew ?_))); (case side2 => exact HC0_1.out); (case side3 => repeat (first | exact (Kd.C_below HR1_1.out HB.out) | (with_reducible refine Kd.C_alloc ?_ _) | (with_reducible refine Kd.C_drewN ?_ _) | (with_reducible refine Kd.C_drew ?_))); (case side4 => exact HC1_1.out); rintro e w32 ⟨rfl, hb⟩; refine ⟨_, rfl, ?_⟩; have n0_ := Aside0.mk (blk_below (g := gb284) (o := .cells #[.int .i64 a0_0, .slice A0_1 l0_1.length c0_1] 30 (0, 0)) (by (with_reducible repeat (first | refine blk_drewN ?_ _ | refine blk_drew ?_ | refine blk_alloc ?_ _)); exact BK284.out) hb); have n1_ := Aside0.mk (blk_below (g := gb285) (o := .cells #[.int .i64 a1_0, .slice A1_1 l1_1.length c1_1] 30 (0, 0)) (by (with_reducible repeat (first | refine blk_drewN ?_ _ | refine blk_drew ?_ | refine blk_alloc ?_ _)); exact BK285.out) hb); have n2_ := Aside0.mk (below_step (by repeat (first | (with_reducible first | exact HB.out | apply below_alloc | apply pw_below_drewN | apply below_drew1 | refine below_set ?_ GE284.out | refine below_set ?_ GE285.out) | exact HB.out)) hb); clear BK284; clear BK285; clear HB; have BK284 := n0_; have BK285 := n1_; have HB := n2_; clear n0_ n1_ n2_; (try clear hb); (try clear hb2); (try clear hk); (try clear hi); have hcz33_0 : w32.cell? ⟨gb285, 0, none⟩ = some (.int .i64 a1_0) := (blk_cell BK285.out 0).trans rfl; have hcz33_1 : w32.cell? ⟨gb285, 1, none⟩ = some (.slice A1_1 l1_1.length c1_1) := (blk_cell BK285.out 1).trans rfl; have hfz33_0 := blk_frozen BK285.out 0; have hfz33_1 := blk_frozen BK285.out 1; have hcz34_0 : w32.cell? ⟨gb284, 0, none⟩ = some (.int .i64 a0_0) := (blk_cell BK284.out 0).trans rfl; have hcz34_1 : w32.cell? ⟨gb284, 1, none⟩ = some (.slice A0_1 l0_1.length c0_1) := (blk_cell BK284.out 1).trans rfl; have hfz34_0 := blk_frozen BK284.out 0; have hfz34_1 := blk_frozen BK284.out 1) | ((with_reducible refine gate_callee (f := 41) rfl ?_); refine goesL_ (some 16) rfl rfl Try.func41 (by kernel_rfl) rfl #[.agg #[.int .i64 a1_0, .slice A1_1 l1_1.length c1_1], .agg #[.int .i64 a0_0, .slice A0_1 l0_1.length c0_1]] rfl (by (try simp only [List.map_toArray, List.map_cons, List.map_nil]); first | done | rfl | (simp only [List.length_drop, List.length_take]; rfl)) ?_; (with_reducible refine (kbo_Greater.calls k a1_0 _ _ l1_1 a0_0 _ _ l0_1 true _ ?side1 ?side2 ?side3 ?side4 A22.out).mono ?_); (case side1 => repeat (first | exact (Kd.C_below HR1_1.out HB.out) | (with_reducible refine Kd.C_alloc ?_ _) | (with_reducible refine Kd.C_drewN ?_ _) | (with_reducible refine Kd.C_drew ?_))); (case side2 => exact HC1_1.out); (case side3 => repeat (first | exact (Kd.C_below HR0_1.out HB.out) | (with_reducible refine Kd.C_alloc ?_ _) | (with_reducible refine Kd.C_drewN ?_ _) | (with_reducible refine Kd.C_drew ?_))); (case side4 => exact HC0_1.out); rintro e w35 ⟨rfl, hb⟩; refine ⟨_, rfl, ?_⟩; have n0_ := Aside0.mk (blk_below (g := gb284) (o := .cells #[.int .i64 a0_0, .slice A0_1 l0_1.length c0_1] 30 (0, 0)) (by (with_reducible repeat (first | refine blk_drewN ?_ _ | refine blk_drew ?_ | refine blk_alloc ?_ _)); exact BK284.out) hb); have n1_ := Aside0.mk (blk_below (g := gb285) (o := .cells #[.int .i64 a1_0, .slice A1_1 l1_1.length c1_1] 30 (0, 0)) (by (with_reducible repeat (first | refine blk_drewN ?_ _ | refine blk_drew ?_ | refine blk_alloc ?_ _)); exact BK285.out) hb); have n2_ := Aside0.mk (below_step (by repeat (first | (with_reducible first | exact HB.out | apply below_alloc | apply pw_below_drewN | apply below_drew1 | refine below_set ?_ GE284.out | refine below_set ?_ GE285.out) | exact HB.out)) hb); clear BK284; clear BK285; clear HB; have BK284 := n0_; have BK285 := n1_; have HB := n2_; clear n0_ n1_ n2_; (try clear hb); (try clear hb2); (try clear hk); (try clear hi)))
        go_ret
        exact ⟨by first | rfl | (simp [errW_none, errW_some] <;> rfl) | (simp [*, errW_none, errW_some] <;> rfl), by repeat (first | (with_reducible first | exact HB.out | apply below_alloc | apply pw_below_drewN | apply below_drew1 | refine below_set ?_ GE284.out | refine below_set ?_ GE285.out) | exact HB.out)⟩
      · replace c23 := Bool.eq_false_iff.mpr c23
        subst c23
        have H1 : (some 2) = some r := by rw [if_neg (show ¬ (false = true) by decide)] at H; exact H
        clear H
        have H := H1
        clear H1
        obtain rfl := Option.some.inj H
        go_enter Try.func43, Try.ntmps43
        go_wp2_with (first | ((with_reducible refine gate_dst (N := 2) rfl ?_); refine box_event ?hg (N := 2) ?hd (cs := #[.int .i64 a0_0, .slice A0_1 l0_1.length c0_1]) (t := 30) ?hr ?_; (case hd => rfl); (case hg => rfl); (case hr => first | (go_simp; done) | (go_simp; rfl)); intro gb284 hg w36 hbox hb; have n0_ := Aside0.mk (below_step (by repeat (first | (with_reducible first | exact HB.out | apply below_alloc | apply pw_below_drewN | apply below_drew1) | exact HB.out)) hb); have n1_ := Aside0.mk (hbox); have n2_ := Aside0.mk ((by rw [hg]; exact (below_size (by repeat (first | (with_reducible first | exact HB.out | apply below_alloc | apply pw_below_drewN | apply below_drew1) | exact HB.out))) : w.heap.size ≤ gb284)); have n3_ := Aside0.mk ((by rw [hg]; exact (below_size (by repeat (first | (with_reducible first | exact HB.out | apply below_alloc | apply pw_below_drewN | apply below_drew1) | exact HB.out))) : w.heap.size ≤ gb284)); clear HB; have HB := n0_; have BK284 := n1_; have GW284 := n2_; have GE284 := n3_; clear n0_ n1_ n2_ n3_; clear hb hbox hg) | ((with_reducible refine gate_dst (N := 3) rfl ?_); refine box_event ?hg (N := 3) ?hd (cs := #[.int .i64 a1_0, .slice A1_1 l1_1.length c1_1]) (t := 30) ?hr ?_; (case hd => rfl); (case hg => rfl); (case hr => first | (go_simp; done) | (go_simp; rfl)); intro gb285 hg w37 hbox hb; have n0_ := Aside0.mk (blk_below (g := gb284) (o := .cells #[.int .i64 a0_0, .slice A0_1 l0_1.length c0_1] 30 (0, 0)) (by (with_reducible repeat (first | refine blk_drewN ?_ _ | refine blk_drew ?_ | refine blk_alloc ?_ _)); exact BK284.out) hb); have n1_ := Aside0.mk (below_step (by repeat (first | (with_reducible first | exact HB.out | apply below_alloc | apply pw_below_drewN | apply below_drew1 | refine below_set ?_ GE284.out) | exact HB.out)) hb); have n2_ := Aside0.mk (hbox); have n3_ := Aside0.mk ((by rw [hg]; exact (below_size (by repeat (first | (with_reducible first | exact HB.out | apply below_alloc | apply pw_below_drewN | apply below_drew1 | refine below_set ?_ GE284.out) | exact HB.out))) : w.heap.size ≤ gb285)); have n4_ := Aside0.mk ((by rw [hg]; exact (below_size (by repeat (first | (with_reducible first | exact HB.out | apply below_alloc | apply pw_below_drewN | apply below_drew1 | refine below_set ?_ GE284.out) | exact HB.out))) : w.heap.size ≤ gb285)); have n5_ := Aside0.mk ((by rw [hg]; exact Nat.ne_of_lt (blk_lt (g := gb284) (o := .cells #[.int .i64 a0_0, .slice A0_1 l0_1.length c0_1] 30 (0, 0)) (by (with_reducible repeat (first | refine blk_drewN ?_ _ | refine blk_drew ?_ | refine blk_alloc ?_ _)); exact BK284.out)) : gb284 ≠ gb285)); have n6_ := Aside0.mk ((by rw [hg]; exact Nat.ne_of_gt (blk_lt (g := gb284) (o := .cells #[.int .i64 a0_0, .slice A0_1 l0_1.length c0_1] 30 (0, 0)) (by (with_reducible repeat (first | refine blk_drewN ?_ _ | refine blk_drew ?_ | refine blk_alloc ?_ _)); exact BK284.out)) : gb285 ≠ gb284)); clear BK284; clear HB; have BK284 := n0_; have HB := n1_; have BK285 := n2_; have GW285 := n3_; have GE285 := n4_; have NB284_285 := n5_; have NB285_284 := n6_; clear n0_ n1_ n2_ n3_ n4_ n5_ n6_; clear hb hbox hg; have hnb38 := NB284_285.out; have hnc38 := NB285_284.out; have hcz39_0 : w37.cell? ⟨gb284, 0, none⟩ = some (.int .i64 a0_0) := (blk_cell BK284.out 0).trans rfl; have hcz39_1 : w37.cell? ⟨gb284, 1, none⟩ = some (.slice A0_1 l0_1.length c0_1) := (blk_cell BK284.out 1).trans rfl; have hfz39_0 := blk_frozen BK284.out 0; have hfz39_1 := blk_frozen BK284.out 1; have hcz40_0 : w37.cell? ⟨gb285, 0, none⟩ = some (.int .i64 a1_0) := (blk_cell BK285.out 0).trans rfl; have hcz40_1 : w37.cell? ⟨gb285, 1, none⟩ = some (.slice A1_1 l1_1.length c1_1) := (blk_cell BK285.out 1).trans rfl; have hfz40_0 := blk_frozen BK285.out 0; have hfz40_1 := blk_frozen BK285.out 1) | ((with_reducible refine gate_callee (f := 37) rfl ?_); refine goesL_ (some 8) rfl rfl Try.func37 (by kernel_rfl) rfl #[.agg #[.int .i64 a0_0, .slice A0_1 l0_1.length c0_1], .agg #[.int .i64 a1_0, .slice A1_1 l1_1.length c1_1]] rfl (by (try simp only [List.map_toArray, List.map_cons, List.map_nil]); first | done | rfl | (simp only [List.length_drop, List.length_take]; rfl)) ?_; (with_reducible refine (term_Same.calls a0_0 _ _ l0_1 a1_0 _ _ l1_1 false _ ?side1 ?side2 ?side3 ?side4 A3.out).mono ?_); (case side1 => repeat (first | exact (Kd.C_below HR0_1.out HB.out) | (with_reducible refine Kd.C_alloc ?_ _) | (with_reducible refine Kd.C_drewN ?_ _) | (with_reducible refine Kd.C_drew ?_))); (case side2 => exact HC0_1.out); (case side3 => repeat (first | exact (Kd.C_below HR1_1.out HB.out) | (with_reducible refine Kd.C_alloc ?_ _) | (with_reducible refine Kd.C_drewN ?_ _) | (with_reducible refine Kd.C_drew ?_))); (case side4 => exact HC1_1.out); rintro e w41 ⟨rfl, hb⟩; refine ⟨_, rfl, ?_⟩; have n0_ := Aside0.mk (blk_below (g := gb284) (o := .cells #[.int .i64 a0_0, .slice A0_1 l0_1.length c0_1] 30 (0, 0)) (by (with_reducible repeat (first | refine blk_drewN ?_ _ | refine blk_drew ?_ | refine blk_alloc ?_ _)); exact BK284.out) hb); have n1_ := Aside0.mk (blk_below (g := gb285) (o := .cells #[.int .i64 a1_0, .slice A1_1 l1_1.length c1_1] 30 (0, 0)) (by (with_reducible repeat (first | refine blk_drewN ?_ _ | refine blk_drew ?_ | refine blk_alloc ?_ _)); exact BK285.out) hb); have n2_ := Aside0.mk (below_step (by repeat (first | (with_reducible first | exact HB.out | apply below_alloc | apply pw_below_drewN | apply below_drew1 | refine below_set ?_ GE284.out | refine below_set ?_ GE285.out) | exact HB.out)) hb); clear BK284; clear BK285; clear HB; have BK284 := n0_; have BK285 := n1_; have HB := n2_; clear n0_ n1_ n2_; (try clear hb); (try clear hb2); (try clear hk); (try clear hi); have hcz42_0 : w41.cell? ⟨gb284, 0, none⟩ = some (.int .i64 a0_0) := (blk_cell BK284.out 0).trans rfl; have hcz42_1 : w41.cell? ⟨gb284, 1, none⟩ = some (.slice A0_1 l0_1.length c0_1) := (blk_cell BK284.out 1).trans rfl; have hfz42_0 := blk_frozen BK284.out 0; have hfz42_1 := blk_frozen BK284.out 1; have hcz43_0 : w41.cell? ⟨gb285, 0, none⟩ = some (.int .i64 a1_0) := (blk_cell BK285.out 0).trans rfl; have hcz43_1 : w41.cell? ⟨gb285, 1, none⟩ = some (.slice A1_1 l1_1.length c1_1) := (blk_cell BK285.out 1).trans rfl; have hfz43_0 := blk_frozen BK285.out 0; have hfz43_1 := blk_frozen BK285.out 1) | ((with_reducible refine gate_callee (f := 41) rfl ?_); refine goesL_ (some 12) rfl rfl Try.func41 (by kernel_rfl) rfl #[.agg #[.int .i64 a0_0, .slice A0_1 l0_1.length c0_1], .agg #[.int .i64 a1_0, .slice A1_1 l1_1.length c1_1]] rfl (by (try simp only [List.map_toArray, List.map_cons, List.map_nil]); first | done | rfl | (simp only [List.length_drop, List.length_take]; rfl)) ?_; (with_reducible refine (kbo_Greater.calls k a0_0 _ _ l0_1 a1_0 _ _ l1_1 false _ ?side1 ?side2 ?side3 ?side4 A11.out).mono ?_); (case side1 => repeat (first | exact (Kd.C_below HR0_1.out HB.out) | (with_reducible refine Kd.C_alloc ?_ _) | (with_reducible refine Kd.C_drewN ?_ _) | (with_reducible refine Kd.C_drew ?_))); (case side2 => exact HC0_1.out); (case side3 => repeat (first | exact (Kd.C_below HR1_1.out HB.out) | (with_reducible refine Kd.C_alloc ?_ _) | (with_reducible refine Kd.C_drewN ?_ _) | (with_reducible refine Kd.C_drew ?_))); (case side4 => exact HC1_1.out); rintro e w44 ⟨rfl, hb⟩; refine ⟨_, rfl, ?_⟩; have n0_ := Aside0.mk (blk_below (g := gb284) (o := .cells #[.int .i64 a0_0, .slice A0_1 l0_1.length c0_1] 30 (0, 0)) (by (with_reducible repeat (first | refine blk_drewN ?_ _ | refine blk_drew ?_ | refine blk_alloc ?_ _)); exact BK284.out) hb); have n1_ := Aside0.mk (blk_below (g := gb285) (o := .cells #[.int .i64 a1_0, .slice A1_1 l1_1.length c1_1] 30 (0, 0)) (by (with_reducible repeat (first | refine blk_drewN ?_ _ | refine blk_drew ?_ | refine blk_alloc ?_ _)); exact BK285.out) hb); have n2_ := Aside0.mk (below_step (by repeat (first | (with_reducible first | exact HB.out | apply below_alloc | apply pw_below_drewN | apply below_drew1 | refine below_set ?_ GE284.out | refine below_set ?_ GE285.out) | exact HB.out)) hb); clear BK284; clear BK285; clear HB; have BK284 := n0_; have BK285 := n1_; have HB := n2_; clear n0_ n1_ n2_; (try clear hb); (try clear hb2); (try clear hk); (try clear hi); have hcz45_0 : w44.cell? ⟨gb285, 0, none⟩ = some (.int .i64 a1_0) := (blk_cell BK285.out 0).trans rfl; have hcz45_1 : w44.cell? ⟨gb285, 1, none⟩ = some (.slice A1_1 l1_1.length c1_1) := (blk_cell BK285.out 1).trans rfl; have hfz45_0 := blk_frozen BK285.out 0; have hfz45_1 := blk_frozen BK285.out 1; have hcz46_0 : w44.cell? ⟨gb284, 0, none⟩ = some (.int .i64 a0_0) := (blk_cell BK284.out 0).trans rfl; have hcz46_1 : w44.cell? ⟨gb284, 1, none⟩ = some (.slice A0_1 l0_1.length c0_1) := (blk_cell BK284.out 1).trans rfl; have hfz46_0 := blk_frozen BK284.out 0; have hfz46_1 := blk_frozen BK284.out 1) | ((with_reducible refine gate_callee (f := 41) rfl ?_); refine goesL_ (some 16) rfl rfl Try.func41 (by kernel_rfl) rfl #[.agg #[.int .i64 a1_0, .slice A1_1 l1_1.length c1_1], .agg #[.int .i64 a0_0, .slice A0_1 l0_1.length c0_1]] rfl (by (try simp only [List.map_toArray, List.map_cons, List.map_nil]); first | done | rfl | (simp only [List.length_drop, List.length_take]; rfl)) ?_; (with_reducible refine (kbo_Greater.calls k a1_0 _ _ l1_1 a0_0 _ _ l0_1 false _ ?side1 ?side2 ?side3 ?side4 A22.out).mono ?_); (case side1 => repeat (first | exact (Kd.C_below HR1_1.out HB.out) | (with_reducible refine Kd.C_alloc ?_ _) | (with_reducible refine Kd.C_drewN ?_ _) | (with_reducible refine Kd.C_drew ?_))); (case side2 => exact HC1_1.out); (case side3 => repeat (first | exact (Kd.C_below HR0_1.out HB.out) | (with_reducible refine Kd.C_alloc ?_ _) | (with_reducible refine Kd.C_drewN ?_ _) | (with_reducible refine Kd.C_drew ?_))); (case side4 => exact HC0_1.out); rintro e w47 ⟨rfl, hb⟩; refine ⟨_, rfl, ?_⟩; have n0_ := Aside0.mk (blk_below (g := gb284) (o := .cells #[.int .i64 a0_0, .slice A0_1 l0_1.length c0_1] 30 (0, 0)) (by (with_reducible repeat (first | refine blk_drewN ?_ _ | refine blk_drew ?_ | refine blk_alloc ?_ _)); exact BK284.out) hb); have n1_ := Aside0.mk (blk_below (g := gb285) (o := .cells #[.int .i64 a1_0, .slice A1_1 l1_1.length c1_1] 30 (0, 0)) (by (with_reducible repeat (first | refine blk_drewN ?_ _ | refine blk_drew ?_ | refine blk_alloc ?_ _)); exact BK285.out) hb); have n2_ := Aside0.mk (below_step (by repeat (first | (with_reducible first | exact HB.out | apply below_alloc | apply pw_below_drewN | apply below_drew1 | refine below_set ?_ GE284.out | refine below_set ?_ GE285.out) | exact HB.out)) hb); clear BK284; clear BK285; clear HB; have BK284 := n0_; have BK285 := n1_; have HB := n2_; clear n0_ n1_ n2_; (try clear hb); (try clear hb2); (try clear hk); (try clear hi)))
        go_ret
        exact ⟨by first | rfl | (simp [errW_none, errW_some] <;> rfl) | (simp [*, errW_none, errW_some] <;> rfl), by repeat (first | (with_reducible first | exact HB.out | apply below_alloc | apply pw_below_drewN | apply below_drew1 | refine below_set ?_ GE284.out | refine below_set ?_ GE285.out) | exact HB.out)⟩
end Go.Proofs.Ytpfddihcikiofaa.P
end

section
namespace Go.Proofs.Ytpfddihcikiofaa.P
open Go.RowKit Go.Proofs.YtpfddihcikiofaaW.PrintWords Go.Proofs.YtpfddihcikiofaaW.PrintLast Go.Proofs.YtpfddihcikiofaaW.PrintMore
attribute [local go_sem] max2_int min2_int max_two min_two max_three min_three max_four min_four
set_option linter.unusedVariables false
set_option linter.unusedSimpArgs false
def soriteslaw10_alive.f (k : Nat)  : Option (Bool) := (kbo_Greater.f k 4 (([(⟨(-1), ([] : List (S30))⟩ : S30), (⟨1, ([] : List (S30))⟩ : S30)] : List (S30))) 3 (([(⟨(-1), ([] : List (S30))⟩ : S30)] : List (S30)))).bind fun t295 => (if t295 = true then ((kbo_Compare.f k (-1) ([] : List (S30)) 1 ([] : List (S30))).bind fun t296 => (some (t296 == 2))) else (some false))
set_option maxHeartbeats 8000000 in
set_option maxRecDepth 100000 in
theorem soriteslaw10_alive.calls (k : Nat)  (r : Bool) (w : World) (h : soriteslaw10_alive.f k  = some r) :
    Calls Try.prog 40 #[] w fun e w' => e = .returned (.bool r) ∧ Below w.heap.size w w' := by
  have hu30 := Try.underlying30
  have HB := Aside0.mk (Below.refl w.heap.size w)
  have H : ((kbo_Greater.f k 4 (([(⟨(-1), ([] : List (S30))⟩ : S30), (⟨1, ([] : List (S30))⟩ : S30)] : List (S30))) 3 (([(⟨(-1), ([] : List (S30))⟩ : S30)] : List (S30)))).bind fun t295 => (if t295 = true then ((kbo_Compare.f k (-1) ([] : List (S30)) 1 ([] : List (S30))).bind fun t296 => (some (t296 == 2))) else (some false))) = some r := h
  clear h
  obtain ⟨y289, hy289⟩ : ∃ y_ : List (S30), y_ = (([(⟨(-1), ([] : List (S30))⟩ : S30), (⟨1, ([] : List (S30))⟩ : S30)] : List (S30))) := ⟨_, rfl⟩
  replace H : ((kbo_Greater.f k 4 y289 3 (([(⟨(-1), ([] : List (S30))⟩ : S30)] : List (S30)))).bind fun t295 => (if t295 = true then ((kbo_Compare.f k (-1) ([] : List (S30)) 1 ([] : List (S30))).bind fun t296 => (some (t296 == 2))) else (some false))) = some r := by first | (rw [hy289]; with_reducible exact H) | (have H2_ := (Option.bind_some _ _).symm.trans H; rw [hy289]; with_reducible exact H2_) | (have H2_ := (Option.bind_some _ _).symm.trans H; with_reducible exact H2_) | with_reducible exact H | (rw [hy289]; exact H) | exact H
  have Ny289 := Aside0.mk hy289
  clear hy289
  obtain ⟨y292, hy292⟩ : ∃ y_ : List (S30), y_ = (([(⟨(-1), ([] : List (S30))⟩ : S30)] : List (S30))) := ⟨_, rfl⟩
  replace H : ((kbo_Greater.f k 4 y289 3 y292).bind fun t295 => (if t295 = true then ((kbo_Compare.f k (-1) ([] : List (S30)) 1 ([] : List (S30))).bind fun t296 => (some (t296 == 2))) else (some false))) = some r := by first | (rw [hy292]; with_reducible exact H) | (have H2_ := (Option.bind_some _ _).symm.trans H; rw [hy292]; with_reducible exact H2_) | (have H2_ := (Option.bind_some _ _).symm.trans H; with_reducible exact H2_) | with_reducible exact H | (rw [hy292]; exact H) | exact H
  have Ny292 := Aside0.mk hy292
  clear hy292
  replace H := Option.bind_eq_some_iff.mp H
  obtain ⟨t295, A10, H⟩ := H
  replace H : (if t295 = true then ((kbo_Compare.f k (-1) ([] : List (S30)) 1 ([] : List (S30))).bind fun t296 => (some (t296 == 2))) else (some false)) = some r := H
  have A1 := Aside0.mk A10
  clear A10
  by_cases c2 : t295 = true
  · subst c2
    have H1 : ((kbo_Compare.f k (-1) ([] : List (S30)) 1 ([] : List (S30))).bind fun t296 => (some (t296 == 2))) = some r := by rw [if_pos rfl] at H; exact H
    clear H
    have H := H1
    clear H1
    replace H := Option.bind_eq_some_iff.mp H
    obtain ⟨t296, A30, H⟩ := H
    replace H : (some (t296 == 2)) = some r := H
    have A3 := Aside0.mk A30
    clear A30
    obtain rfl := Option.some.inj H
    go_enter Try.func40, Try.ntmps40
    go_wp2_with (first | ((with_reducible refine gate_dst (N := 3) rfl ?_); refine Kd.R_lit k30 _ 30 ?hg (N := 3) ?hd (xs := ([(⟨(-1), ([] : List (S30))⟩ : S30), (⟨1, ([] : List (S30))⟩ : S30)] : List (S30))) (inner := [.int .i64 (-1), .slice none 0 0, .int .i64 1, .slice none 0 0]) (ok := fun _ => True) (okp := fun _ => True) ?hr ?hp (fun _ hk => hk) trivial (Below.refl _ _) (Nat.le_refl _) (by simp) ?_; (case hd => rfl); (case hg => rfl); (case hr => first | (go_simp; done) | (go_simp; rfl)); (case hp => exact (Reps.c2 (show Kd.M k30 _ _ _ (⟨(-1), ([] : List (S30))⟩ : S30) [.int .i64 (-1), .slice none 0 0] from (k30_mkM _ _ _ (⟨(-1), ([] : List (S30))⟩ : S30) (Kd.R_nil _ _ _ _ _))) (Reps.c2 (show Kd.M k30 _ _ _ (⟨1, ([] : List (S30))⟩ : S30) [.int .i64 1, .slice none 0 0] from (k30_mkM _ _ _ (⟨1, ([] : List (S30))⟩ : S30) (Kd.R_nil _ _ _ _ _))) (Reps.none _ _)))); intro v290 w4 ho5 hb hg_ hnew_; clear hg_ hnew_; (first | rw [← Ny289.out] at ho5 | (simp only [Int.reduceToNat] at ho5; rw [← Ny289.out] at ho5)); have n0_ := Aside0.mk (Kd.R_lower ho5 (below_size (by repeat (first | (with_reducible first | exact HB.out | apply below_alloc | apply pw_below_drewN | apply below_drew1) | exact HB.out)))); have n1_ := Aside0.mk (below_step (by repeat (first | (with_reducible first | exact HB.out | apply below_alloc | apply pw_below_drewN | apply below_drew1) | exact HB.out)) hb); clear HB; have HO291 := n0_; have HB := n1_; clear n0_ n1_; clear hb ho5; obtain ⟨Ao6, co6, eo6⟩ := Kd.R_slice HO291.out; subst eo6) | ((with_reducible refine gate_dst (N := 6) rfl ?_); refine Kd.R_lit k30 _ 30 ?hg (N := 6) ?hd (xs := ([(⟨(-1), ([] : List (S30))⟩ : S30)] : List (S30))) (inner := [.int .i64 (-1), .slice none 0 0]) (ok := fun _ => True) (okp := fun _ => True) ?hr ?hp (fun _ hk => hk) trivial (Below.refl _ _) (Nat.le_refl _) (by simp) ?_; (case hd => rfl); (case hg => rfl); (case hr => first | (go_simp; done) | (go_simp; rfl)); (case hp => exact (Reps.c2 (show Kd.M k30 _ _ _ (⟨(-1), ([] : List (S30))⟩ : S30) [.int .i64 (-1), .slice none 0 0] from (k30_mkM _ _ _ (⟨(-1), ([] : List (S30))⟩ : S30) (Kd.R_nil _ _ _ _ _))) (Reps.none _ _))); intro v293 w7 ho8 hb hg_ hnew_; clear hg_ hnew_; (first | rw [← Ny292.out] at ho8 | (simp only [Int.reduceToNat] at ho8; rw [← Ny292.out] at ho8)); have n0_ := Aside0.mk (Kd.R_elder' (by (with_reducible repeat (first | apply Kd.R_alloc | apply Kd.R_drewN | apply Kd.R_drew)); exact HO291.out) (Kd.R_base ho8) hb); have n1_ := Aside0.mk (Kd.R_lower (Kd.R_new' ho8 (Kd.R_lt (by (with_reducible repeat (first | apply Kd.R_alloc | apply Kd.R_drewN | apply Kd.R_drew)); exact HO291.out))) (below_size (by repeat (first | (with_reducible first | exact HB.out | apply below_alloc | apply pw_below_drewN | apply below_drew1) | exact HB.out)))); have n2_ := Aside0.mk (below_step (by repeat (first | (with_reducible first | exact HB.out | apply below_alloc | apply pw_below_drewN | apply below_drew1) | exact HB.out)) hb); clear HO291; clear HB; have HO291 := n0_; have HO294 := n1_; have HB := n2_; clear n0_ n1_ n2_; clear hb ho8; obtain ⟨Ao9, co9, eo9⟩ := Kd.R_slice HO294.out; subst eo9) | ((with_reducible refine gate_callee (f := 41) rfl ?_); refine goesL_ (some 8) rfl rfl Try.func41 (by kernel_rfl) rfl #[.agg #[.int .i64 4, .slice Ao6 y289.length co6], .agg #[.int .i64 3, .slice Ao9 y292.length co9]] rfl (by (try simp only [List.map_toArray, List.map_cons, List.map_nil]); first | done | rfl | (simp only [List.length_drop, List.length_take]; rfl)) ?_; (with_reducible refine (kbo_Greater.calls k 4 _ _ y289 3 _ _ y292 true _ ?side1 ?side2 ?side3 ?side4 A1.out).mono ?_); (case side1 => repeat (first | exact (Kd.R_reads' HO291.out).2.2 | (with_reducible refine Kd.C_alloc ?_ _) | (with_reducible refine Kd.C_drewN ?_ _) | (with_reducible refine Kd.C_drew ?_))); (case side2 => exact (Kd.R_reads' HO291.out).2.1); (case side3 => repeat (first | exact (Kd.R_reads' HO294.out).2.2 | (with_reducible refine Kd.C_alloc ?_ _) | (with_reducible refine Kd.C_drewN ?_ _) | (with_reducible refine Kd.C_drew ?_))); (case side4 => exact (Kd.R_reads' HO294.out).2.1); rintro e w10 ⟨rfl, hb⟩; refine ⟨_, rfl, ?_⟩; have n0_ := Aside0.mk (Kd.R_below (by (with_reducible repeat (first | apply Kd.R_alloc | apply Kd.R_drewN | apply Kd.R_drew)); exact HO291.out) hb); have n1_ := Aside0.mk (Kd.R_below (by (with_reducible repeat (first | apply Kd.R_alloc | apply Kd.R_drewN | apply Kd.R_drew)); exact HO294.out) hb); have n2_ := Aside0.mk (below_step (by repeat (first | (with_reducible first | exact HB.out | apply below_alloc | apply pw_below_drewN | apply below_drew1) | exact HB.out)) hb); clear HO291; clear HO294; clear HB; have HO291 := n0_; have HO294 := n1_; have HB := n2_; clear n0_ n1_ n2_; (try clear hb); (try clear hb2); (try clear hk); (try clear hi)) | (go_at_call 43; (refine (kbo_Compare.calls k (-1) _ _ ([] : List (S30)) 1 _ _ ([] : List (S30)) t296 _ ?side1 ?side2 ?side3 ?side4 A3.out).mono ?_); (case side1 => exact Kd.C_nil _ _); (case side2 => exact Nat.le_refl _); (case side3 => exact Kd.C_nil _ _); (case side4 => exact Nat.le_refl _); rintro e w11 ⟨rfl, hb⟩; have n0_ := Aside0.mk (Kd.R_below (by (with_reducible repeat (first | apply Kd.R_alloc | apply Kd.R_drewN | apply Kd.R_drew)); exact HO291.out) hb); have n1_ := Aside0.mk (Kd.R_below (by (with_reducible repeat (first | apply Kd.R_alloc | apply Kd.R_drewN | apply Kd.R_drew)); exact HO294.out) hb); have n2_ := Aside0.mk (below_step (by repeat (first | (with_reducible first | exact HB.out | apply below_alloc | apply pw_below_drewN | apply below_drew1) | exact HB.out)) hb); clear HO291; clear HO294; clear HB; have HO291 := n0_; have HO294 := n1_; have HB := n2_; clear n0_ n1_ n2_; (try clear hb); (try clear hb2); (try clear hk); (try clear hi)))
    go_ret
    exact ⟨by first | rfl | (simp [errW_none, errW_some] <;> rfl) | (simp [*, errW_none, errW_some] <;> rfl), by repeat (first | (with_reducible first | exact HB.out | apply below_alloc | apply pw_below_drewN | apply below_drew1) | exact HB.out)⟩
  · replace c2 := Bool.eq_false_iff.mpr c2
    subst c2
    have H1 : (some false) = some r := by rw [if_neg (show ¬ (false = true) by decide)] at H; exact H
    clear H
    have H := H1
    clear H1
    obtain rfl := Option.some.inj H
    go_enter Try.func40, Try.ntmps40
    go_wp2_with (first | ((with_reducible refine gate_dst (N := 3) rfl ?_); refine Kd.R_lit k30 _ 30 ?hg (N := 3) ?hd (xs := ([(⟨(-1), ([] : List (S30))⟩ : S30), (⟨1, ([] : List (S30))⟩ : S30)] : List (S30))) (inner := [.int .i64 (-1), .slice none 0 0, .int .i64 1, .slice none 0 0]) (ok := fun _ => True) (okp := fun _ => True) ?hr ?hp (fun _ hk => hk) trivial (Below.refl _ _) (Nat.le_refl _) (by simp) ?_; (case hd => rfl); (case hg => rfl); (case hr => first | (go_simp; done) | (go_simp; rfl)); (case hp => exact (Reps.c2 (show Kd.M k30 _ _ _ (⟨(-1), ([] : List (S30))⟩ : S30) [.int .i64 (-1), .slice none 0 0] from (k30_mkM _ _ _ (⟨(-1), ([] : List (S30))⟩ : S30) (Kd.R_nil _ _ _ _ _))) (Reps.c2 (show Kd.M k30 _ _ _ (⟨1, ([] : List (S30))⟩ : S30) [.int .i64 1, .slice none 0 0] from (k30_mkM _ _ _ (⟨1, ([] : List (S30))⟩ : S30) (Kd.R_nil _ _ _ _ _))) (Reps.none _ _)))); intro v290 w12 ho13 hb hg_ hnew_; clear hg_ hnew_; (first | rw [← Ny289.out] at ho13 | (simp only [Int.reduceToNat] at ho13; rw [← Ny289.out] at ho13)); have n0_ := Aside0.mk (Kd.R_lower ho13 (below_size (by repeat (first | (with_reducible first | exact HB.out | apply below_alloc | apply pw_below_drewN | apply below_drew1) | exact HB.out)))); have n1_ := Aside0.mk (below_step (by repeat (first | (with_reducible first | exact HB.out | apply below_alloc | apply pw_below_drewN | apply below_drew1) | exact HB.out)) hb); clear HB; have HO291 := n0_; have HB := n1_; clear n0_ n1_; clear hb ho13; obtain ⟨Ao14, co14, eo14⟩ := Kd.R_slice HO291.out; subst eo14) | ((with_reducible refine gate_dst (N := 6) rfl ?_); refine Kd.R_lit k30 _ 30 ?hg (N := 6) ?hd (xs := ([(⟨(-1), ([] : List (S30))⟩ : S30)] : List (S30))) (inner := [.int .i64 (-1), .slice none 0 0]) (ok := fun _ => True) (okp := fun _ => True) ?hr ?hp (fun _ hk => hk) trivial (Below.refl _ _) (Nat.le_refl _) (by simp) ?_; (case hd => rfl); (case hg => rfl); (case hr => first | (go_simp; done) | (go_simp; rfl)); (case hp => exact (Reps.c2 (show Kd.M k30 _ _ _ (⟨(-1), ([] : List (S30))⟩ : S30) [.int .i64 (-1), .slice none 0 0] from (k30_mkM _ _ _ (⟨(-1), ([] : List (S30))⟩ : S30) (Kd.R_nil _ _ _ _ _))) (Reps.none _ _))); intro v293 w15 ho16 hb hg_ hnew_; clear hg_ hnew_; (first | rw [← Ny292.out] at ho16 | (simp only [Int.reduceToNat] at ho16; rw [← Ny292.out] at ho16)); have n0_ := Aside0.mk (Kd.R_elder' (by (with_reducible repeat (first | apply Kd.R_alloc | apply Kd.R_drewN | apply Kd.R_drew)); exact HO291.out) (Kd.R_base ho16) hb); have n1_ := Aside0.mk (Kd.R_lower (Kd.R_new' ho16 (Kd.R_lt (by (with_reducible repeat (first | apply Kd.R_alloc | apply Kd.R_drewN | apply Kd.R_drew)); exact HO291.out))) (below_size (by repeat (first | (with_reducible first | exact HB.out | apply below_alloc | apply pw_below_drewN | apply below_drew1) | exact HB.out)))); have n2_ := Aside0.mk (below_step (by repeat (first | (with_reducible first | exact HB.out | apply below_alloc | apply pw_below_drewN | apply below_drew1) | exact HB.out)) hb); clear HO291; clear HB; have HO291 := n0_; have HO294 := n1_; have HB := n2_; clear n0_ n1_ n2_; clear hb ho16; obtain ⟨Ao17, co17, eo17⟩ := Kd.R_slice HO294.out; subst eo17) | ((with_reducible refine gate_callee (f := 41) rfl ?_); refine goesL_ (some 8) rfl rfl Try.func41 (by kernel_rfl) rfl #[.agg #[.int .i64 4, .slice Ao14 y289.length co14], .agg #[.int .i64 3, .slice Ao17 y292.length co17]] rfl (by (try simp only [List.map_toArray, List.map_cons, List.map_nil]); first | done | rfl | (simp only [List.length_drop, List.length_take]; rfl)) ?_; (with_reducible refine (kbo_Greater.calls k 4 _ _ y289 3 _ _ y292 false _ ?side1 ?side2 ?side3 ?side4 A1.out).mono ?_); (case side1 => repeat (first | exact (Kd.R_reads' HO291.out).2.2 | (with_reducible refine Kd.C_alloc ?_ _) | (with_reducible refine Kd.C_drewN ?_ _) | (with_reducible refine Kd.C_drew ?_))); (case side2 => exact (Kd.R_reads' HO291.out).2.1); (case side3 => repeat (first | exact (Kd.R_reads' HO294.out).2.2 | (with_reducible refine Kd.C_alloc ?_ _) | (with_reducible refine Kd.C_drewN ?_ _) | (with_reducible refine Kd.C_drew ?_))); (case side4 => exact (Kd.R_reads' HO294.out).2.1); rintro e w18 ⟨rfl, hb⟩; refine ⟨_, rfl, ?_⟩; have n0_ := Aside0.mk (Kd.R_below (by (with_reducible repeat (first | apply Kd.R_alloc | apply Kd.R_drewN | apply Kd.R_drew)); exact HO291.out) hb); have n1_ := Aside0.mk (Kd.R_below (by (with_reducible repeat (first | apply Kd.R_alloc | apply Kd.R_drewN | apply Kd.R_drew)); exact HO294.out) hb); have n2_ := Aside0.mk (below_step (by repeat (first | (with_reducible first | exact HB.out | apply below_alloc | apply pw_below_drewN | apply below_drew1) | exact HB.out)) hb); clear HO291; clear HO294; clear HB; have HO291 := n0_; have HO294 := n1_; have HB := n2_; clear n0_ n1_ n2_; (try clear hb); (try clear hb2); (try clear hk); (try clear hi)))
    go_ret
    exact ⟨by first | rfl | (simp [errW_none, errW_some] <;> rfl) | (simp [*, errW_none, errW_some] <;> rfl), by repeat (first | (with_reducible first | exact HB.out | apply below_alloc | apply pw_below_drewN | apply below_drew1) | exact HB.out)⟩
end Go.Proofs.Ytpfddihcikiofaa.P
end

section
namespace Go.Proofs.Ytpfddihcikiofaa.P
open Go.RowKit Go.Proofs.YtpfddihcikiofaaW.PrintWords Go.Proofs.YtpfddihcikiofaaW.PrintLast Go.Proofs.YtpfddihcikiofaaW.PrintMore
set_option linter.unusedVariables false
set_option linter.unusedSimpArgs false
mutual
def gtT : S30 → S30 → Bool
  | ⟨f, l⟩, ⟨g, m⟩ => covT ⟨f, l⟩ ⟨g, m⟩ && (if (nodes ⟨f, l⟩).length = (nodes ⟨g, m⟩).length then (if f < 0 ∨ g < 0 then false else if f = g then (if l.length = m.length then gtTs l m else decide (m.length < l.length)) else decide (g < f)) else decide ((nodes ⟨g, m⟩).length < (nodes ⟨f, l⟩).length))
def gtTs : List S30 → List S30 → Bool
  | [], _ => false
  | _ :: _, [] => false
  | x :: l, y :: m => if cmpT x y = 0 then gtTs l m else gtT x y
end
theorem gtTs_drop (l m : List S30) (k : Nat) (hl : k < l.length) (hm : k < m.length) : gtTs (l.drop k) (m.drop k) = if cmpT l[k] m[k] = 0 then gtTs (l.drop (k + 1)) (m.drop (k + 1)) else gtT l[k] m[k] := by
  rw [List.drop_eq_getElem_cons hl, List.drop_eq_getElem_cons hm, gtTs]
def kcmp (a b : S30) : Int := if cmpT a b = 0 then 0 else if gtT a b = true then 1 else if gtT b a = true then -1 else 2
theorem orI2_f (a b : Int) : Ev (fun k => cmp_Or_int.f k [a, b]) (if a = 0 then b else a) := by
  refine ⟨3, fun k hk => ?_⟩
  obtain ⟨n, rfl⟩ : ∃ n, k = n + 3 := ⟨k - 3, by omega⟩
  simp only [cmp_Or_int.f, cmp_Or_int.l0, rd, List.length_cons, List.length_nil, wrap64]
  by_cases ha : a = 0
  · by_cases hb : b = 0
    · simp [ha, hb]
    · simp [ha, hb]
  · simp [ha]
theorem Size_fit {t : S30} (h : fit t) : term_Size.f t.f0 t.f1 = some ((nodes t).length : Int) := Size_is (by have := h.1; omega)
theorem fitB_of {t : S30} (h : fit t) : fitB t = true := (fitB_iff t).2 h
theorem Cov_of {a b : S30} (ha : fit a) (hb : fit b) : kbo_Covers.f a.f0 a.f1 b.f0 b.f1 = some (covT a b) := by
  unfold kbo_Covers.f
  rw [S30.eta, S30.eta, fitB_of ha, fitB_of hb]
  rfl
theorem KGreater_spec : ∀ a b : S30, fit a → fit b → Ev (fun k => kbo_Greater.f k a.f0 a.f1 b.f0 b.f1) (gtT a b) := by
  refine S30.ind ?_
  intro f l ih b ha hb
  obtain ⟨g, m⟩ := b
  have hsa := Size_fit ha
  have hsb := Size_fit hb
  have hcv := Cov_of ha hb
  simp only [] at hsa hsb hcv
  rw [gtT]
  by_cases hc : covT ⟨f, l⟩ ⟨g, m⟩ = true
  · rw [hc, Bool.true_and]
    rw [hc] at hcv
    by_cases hn : (nodes ⟨f, l⟩).length = (nodes ⟨g, m⟩).length
    · rw [if_pos hn]
      have hstep : ∀ k, kbo_Greater.f (k + 1) f l g m = kbo_Greater.j0 k (decide (f < 0 ∨ g < 0)) f l g m := fun k => by
        rw [kbo_Greater.f, hcv]
        simp only [Option.bind_some, if_true, hsa, hsb, cmpI_f]
        rw [hn, cmpI_self, if_pos rfl]
        by_cases hf : f < 0
        · rw [if_pos hf, decide_eq_true (.inl hf)]
        · rw [if_neg hf]
          by_cases hg : g < 0
          · rw [decide_eq_true hg, decide_eq_true (.inr hg)]
          · rw [decide_eq_false hg, decide_eq_false (by omega)]
      refine Ev.step (f := fun k => kbo_Greater.j0 k (decide (f < 0 ∨ g < 0)) f l g m) hstep ?_
      by_cases hv : f < 0 ∨ g < 0
      · rw [if_pos hv, decide_eq_true hv]
        exact Ev.step (f := fun _ => some false) (fun k => by rw [kbo_Greater.j0, if_pos rfl]) (Ev.now _)
      · rw [if_neg hv, decide_eq_false hv]
        refine Ev.step (f := fun k => (cmp_Or_int.f k [cmpI f g, cmpI l.length m.length]).bind fun t => if t = 0 then kbo_Greater.l0 k l (l.length : Int) 0 g m else some (decide (t > 0))) (fun k => by rw [kbo_Greater.j0, if_neg (by decide)]; simp only [cmpI_f, Option.bind_some]) (Ev.bind (orI2_f _ _) ?_)
        by_cases hfg : f = g
        · subst hfg
          rw [if_pos rfl, cmpI_self, if_pos rfl]
          have hf : ¬ f < 0 := fun h => hv (.inl h)
          obtain ⟨hll, hsub⟩ := fit_sub hf ha
          obtain ⟨hml, hsubm⟩ := fit_sub hf hb
          by_cases hlm : l.length = m.length
          · rw [if_pos hlm, hlm, cmpI_self]
            simp only [if_true]
            have key : ∀ n i, l.length - i = n → i ≤ l.length → Ev (fun k => kbo_Greater.l0 k l (m.length : Int) (i : Int) f m) (gtTs (l.drop i) (m.drop i)) := by
              intro n
              induction n with
              | zero =>
                intro i hi hle
                refine Ev.step (f := fun _ => some false) (fun k => by rw [kbo_Greater.l0, if_neg (by omega)]) ?_
                rw [List.drop_of_length_le (by omega), gtTs]; exact Ev.now _
              | succ n ihn =>
                intro i hi hle
                have hlt : i < l.length := by omega
                have hltm : i < m.length := by omega
                have hmem := List.getElem_mem hlt
                refine Ev.step (f := fun k => if (cmpT l[i] m[i] == 0) = true then kbo_Greater.l0 k l (m.length : Int) ((i + 1 : Nat) : Int) f m else (kbo_Greater.f k l[i].f0 l[i].f1 m[i].f0 m[i].f1).bind fun t => some t) (fun k => ?_) ?_
                · rw [kbo_Greater.l0, if_pos (by omega), if_pos (by omega), if_pos (by omega), if_pos (by omega), rdC_at l i hlt, rdC_at m i hltm, wsucc i l.length hlt (by omega), Same_of]
                  rfl
                · rw [gtTs_drop l m i hlt hltm]
                  by_cases h0 : cmpT l[i] m[i] = 0
                  · simp only [h0, beq_self_eq_true, if_true]
                    exact ihn (i + 1) (by omega) (by omega)
                  · rw [if_neg h0]
                    have : (cmpT l[i] m[i] == 0) = false := by simpa using h0
                    simp only [this, Bool.false_eq_true, if_false]
                    exact Ev.bind (ih l[i] hmem m[i] (hsub _ hmem) (hsubm _ (List.getElem_mem hltm))) (Ev.now _)
            have := key l.length 0 rfl (by omega)
            simpa using this
          · rw [if_neg hlm]
            have h1 : cmpI (l.length : Int) m.length ≠ 0 := cmpI_ne (by omega)
            simp only [if_neg h1]
            have : decide (cmpI (l.length : Int) m.length > 0) = decide (m.length < l.length) := by
              rw [decide_eq_decide]
              unfold cmpI
              (repeat' split) <;> omega
            rw [this]; exact Ev.now _
        · rw [if_neg hfg]
          have h1 := cmpI_ne hfg
          simp only [if_neg h1]
          have : decide (cmpI f g > 0) = decide (g < f) := by
            rw [decide_eq_decide]
            unfold cmpI
            (repeat' split) <;> omega
          rw [this]; exact Ev.now _
    · rw [if_neg hn]
      refine Ev.step (f := fun _ => some (decide ((nodes ⟨g, m⟩).length < (nodes ⟨f, l⟩).length))) (fun k => ?_) (Ev.now _)
      rw [kbo_Greater.f, hcv]
      simp only [Option.bind_some, if_true, hsa, hsb, cmpI_f]
      have h1 : cmpI ((nodes ⟨f, l⟩).length : Int) (nodes ⟨g, m⟩).length ≠ 0 := cmpI_ne (by omega)
      rw [if_neg h1]
      congr 1
      rw [decide_eq_decide]
      unfold cmpI
      (repeat' split) <;> omega
  · have hcf : covT ⟨f, l⟩ ⟨g, m⟩ = false := by simpa using hc
    rw [hcf, Bool.false_and]
    rw [hcf] at hcv
    refine Ev.step (f := fun _ => some false) (fun k => ?_) (Ev.now _)
    rw [kbo_Greater.f, hcv]
    rfl
theorem cmp_len : ∀ a b : S30, cmpT a b = 0 → (nodes a).length = (nodes b).length := by
  refine S30.ind ?_
  intro f l ih b h
  obtain ⟨g, m⟩ := b
  have hfg : f = g := by
    rcases Decidable.em (f = g) with e | e
    · exact e
    · exfalso
      have h1 := cmpI_ne e
      have h2 := cmpI_ne (fun e' => e e'.symm)
      simp only [cmpT] at h
      split at h
      · split at h <;> contradiction
      · unfold orI at h; rw [if_neg h1] at h; contradiction
  subst hfg
  by_cases hf : f < 0
  · simp [nodes, hf]
  · have hlm : l.length = m.length := by
      rcases Decidable.em (l.length = m.length) with e | e
      · exact e
      · exfalso
        have h1 : cmpI (l.length : Int) m.length ≠ 0 := cmpI_ne (by omega)
        simp [cmpT, hf, cmpI_self, orI, h1] at h
    have hc : cmpTs l m = 0 := by simpa [cmpT, hf, cmpI_self, hlm, orI] using h
    have key : ∀ (l m : List S30), (∀ x ∈ l, ∀ y, cmpT x y = 0 → (nodes x).length = (nodes y).length) → l.length = m.length → cmpTs l m = 0 → (nodess l).length = (nodess m).length := by
      intro l
      induction l with
      | nil => intro m _ hl _; cases m with
        | nil => rfl
        | cons => simp at hl
      | cons x l ihl =>
        intro m h hl hc
        cases m with
        | nil => simp at hl
        | cons y m =>
          rw [cmpTs] at hc
          split at hc
          · rename_i h0
            rw [nodess, nodess, List.length_append, List.length_append, h x (by simp) y h0, ihl m (fun x hx => h x (by simp [hx])) (by simpa using hl) hc]
          · rename_i h0; contradiction
    have := key l m (fun x hx y => ih x hx y) hlm hc
    simp [nodes, hf, this]
theorem gtTs_same : ∀ l m : List S30, cmpTs l m = 0 → gtTs l m = false
  | [], _, _ => by rw [gtTs]
  | _ :: _, [], _ => by rw [gtTs]
  | x :: l, y :: m, h => by
    rw [cmpTs] at h
    split at h
    · rename_i h0
      rw [gtTs, if_pos h0]
      exact gtTs_same l m h
    · rename_i h0; contradiction
theorem cmp_zero {f g : Int} {l m : List S30} (h : cmpT ⟨f, l⟩ ⟨g, m⟩ = 0) : f = g ∧ (¬ f < 0 → l.length = m.length ∧ cmpTs l m = 0) := by
  have hfg : f = g := by
    rcases Decidable.em (f = g) with e | e
    · exact e
    · exfalso
      have h1 := cmpI_ne e
      have h2 := cmpI_ne (fun e' => e e'.symm)
      simp only [cmpT] at h
      split at h
      · split at h <;> contradiction
      · unfold orI at h; rw [if_neg h1] at h; contradiction
  subst hfg
  refine ⟨rfl, fun hf => ?_⟩
  have hlm : l.length = m.length := by
    rcases Decidable.em (l.length = m.length) with e | e
    · exact e
    · exfalso
      have h1 : cmpI (l.length : Int) m.length ≠ 0 := cmpI_ne (by omega)
      simp [cmpT, hf, cmpI_self, orI, h1] at h
  exact ⟨hlm, by simpa [cmpT, hf, cmpI_self, hlm, orI] using h⟩
theorem gt_same {a b : S30} (h : cmpT a b = 0) : gtT a b = false := by
  have hl := cmp_len a b h
  obtain ⟨f, l⟩ := a
  obtain ⟨g, m⟩ := b
  obtain ⟨rfl, h2⟩ := cmp_zero h
  rw [gtT, if_pos hl]
  by_cases hf : f < 0
  · rw [if_pos (.inl hf), Bool.and_false]
  · obtain ⟨h3, h4⟩ := h2 hf
    rw [if_neg (by omega), if_pos rfl, if_pos h3, gtTs_same l m h4, Bool.and_false]
theorem KCompare_spec (a b : S30) (ha : fit a) (hb : fit b) : Ev (fun k => kbo_Compare.f k a.f0 a.f1 b.f0 b.f1) (kcmp a b) := by
  unfold kbo_Compare.f kcmp
  simp only [Same_of, Option.bind_some]
  by_cases h0 : cmpT a b = 0
  · simp only [h0, beq_self_eq_true, if_true]; exact Ev.now _
  · have : (cmpT a b == 0) = false := by simpa using h0
    simp only [this, Bool.false_eq_true, if_false, if_neg h0]
    refine Ev.bind (KGreater_spec a b ha hb) ?_
    by_cases h1 : gtT a b = true
    · simp only [h1, if_true]; exact Ev.now _
    · simp only [if_neg h1]
      refine Ev.bind (KGreater_spec b a hb ha) ?_
      by_cases h2 : gtT b a = true
      · simp only [h2, if_true]; exact Ev.now _
      · simp only [if_neg h2]; exact Ev.now _
theorem fit_of_ok : ∀ t : S30, ok t → (nodes t).length ≤ 1000000 → fit t := by
  have key : ∀ t : S30, ok t → SmallN t := by
    refine S30.ind ?_
    intro f l ih h
    obtain ⟨h1, h2, h3, h4⟩ := h
    have hl : ∀ y ∈ nodess l, -1000000 ≤ y.f0 ∧ y.f0 ≤ 1000000 := by
      have := oks_mem h4
      clear h1 h2 h3 h4
      induction l with
      | nil => intro y hy; cases hy
      | cons x l ihl =>
        intro y hy
        rw [nodess, List.mem_append] at hy
        rcases hy with hy | hy
        · exact ih x (by simp) (this x (by simp)) y hy
        · exact ihl (fun x hx => ih x (by simp [hx])) (fun x hx => this x (by simp [hx])) y hy
    intro y hy
    rw [nodes] at hy
    rcases List.mem_cons.1 hy with rfl | hy
    · exact ⟨by show -1000000 ≤ f; omega, by show f ≤ 1000000; omega⟩
    · split at hy
      · cases hy
      · exact hl y hy
  intro t h hn
  exact ⟨hn, key t h⟩
theorem alive10 : Ev (fun k => soriteslaw10_alive.f k) true := by
  have f1 : fit ⟨4, [⟨-1, []⟩, ⟨1, []⟩]⟩ := fitB_iff _ |>.1 (by decide)
  have f2 : fit ⟨3, [⟨-1, []⟩]⟩ := fitB_iff _ |>.1 (by decide)
  have f3 : fit ⟨-1, []⟩ := fitB_iff _ |>.1 (by decide)
  have f4 : fit ⟨1, []⟩ := fitB_iff _ |>.1 (by decide)
  unfold soriteslaw10_alive.f
  refine Ev.bind (KGreater_spec ⟨4, [⟨-1, []⟩, ⟨1, []⟩]⟩ ⟨3, [⟨-1, []⟩]⟩ f1 f2) ?_
  rw [show gtT ⟨4, [⟨-1, []⟩, ⟨1, []⟩]⟩ ⟨3, [⟨-1, []⟩]⟩ = true by decide]
  simp only [if_true]
  refine Ev.bind (KCompare_spec ⟨-1, []⟩ ⟨1, []⟩ f3 f4) ?_
  rw [show kcmp ⟨-1, []⟩ ⟨1, []⟩ = 2 by decide]
  exact Ev.now _
end Go.Proofs.Ytpfddihcikiofaa.P
end

section
namespace Go.Proofs.Ytpfddihcikiofaa.P
open Go.RowKit Go.Proofs.YtpfddihcikiofaaW.PrintWords Go.Proofs.YtpfddihcikiofaaW.PrintLast Go.Proofs.YtpfddihcikiofaaW.PrintMore
set_option linter.unusedVariables false
set_option linter.unusedSimpArgs false
def ground (t : S30) : Prop := ∀ x ∈ nodes t, 0 ≤ x.f0
theorem gtTs_asymm : ∀ l m : List S30, (∀ x ∈ l, ∀ y, gtT x y = true → gtT y x = false) → gtTs l m = true → gtTs m l = false
  | [], m, _, h => by rw [gtTs] at h; cases h
  | _ :: _, [], _, h => by rw [gtTs] at h; cases h
  | x :: l, y :: m, hx, h => by
    rw [gtTs] at h ⊢
    have hanti := cmp_anti x y
    by_cases h0 : cmpT x y = 0
    · rw [if_pos h0] at h
      rw [if_pos (by omega)]
      exact gtTs_asymm l m (fun x hx' => hx x (by simp [hx'])) h
    · rw [if_neg h0] at h
      rw [if_neg (by omega)]
      exact hx x (by simp) y h
theorem gt_asymm : ∀ a b : S30, gtT a b = true → gtT b a = false := by
  refine S30.ind ?_
  intro f l ih b h
  obtain ⟨g, m⟩ := b
  rw [gtT, Bool.and_eq_true] at h
  rw [gtT]
  have h2 := h.2
  by_cases hn : (nodes ⟨f, l⟩).length = (nodes ⟨g, m⟩).length
  · rw [if_pos hn] at h2
    rw [if_pos hn.symm]
    by_cases hv : f < 0 ∨ g < 0
    · rw [if_pos hv] at h2; cases h2
    · rw [if_neg hv] at h2
      rw [if_neg (by omega)]
      by_cases hfg : f = g
      · subst hfg
        rw [if_pos rfl] at h2 ⊢
        by_cases hlm : l.length = m.length
        · rw [if_pos hlm] at h2
          rw [if_pos hlm.symm, gtTs_asymm l m ih h2, Bool.and_false]
        · rw [if_neg hlm, decide_eq_true_eq] at h2
          rw [if_neg (fun e => hlm e.symm), decide_eq_false (by omega), Bool.and_false]
      · rw [if_neg hfg, decide_eq_true_eq] at h2
        rw [if_neg (fun e => hfg e.symm), decide_eq_false (by omega), Bool.and_false]
  · rw [if_neg hn, decide_eq_true_eq] at h2
    rw [if_neg (fun e => hn e.symm), decide_eq_false (by omega), Bool.and_false]
end Go.Proofs.Ytpfddihcikiofaa.P
end

section
namespace Go.Proofs.Ytpfddihcikiofaa.P
open Go.RowKit Go.Proofs.YtpfddihcikiofaaW.PrintWords Go.Proofs.YtpfddihcikiofaaW.PrintLast Go.Proofs.YtpfddihcikiofaaW.PrintMore
set_option linter.unusedVariables false
set_option linter.unusedSimpArgs false
theorem eqv_symm {a b : S30} (h : cmpT a b = 0) : cmpT b a = 0 := by have := cmp_anti a b; omega
theorem eqv_trans {a b c : S30} (h : cmpT a b = 0) (h2 : cmpT b c = 0) : cmpT a c = 0 := by
  have := cmp_trans a b c (by omega) (by omega)
  exact this.2.2 ⟨h, h2⟩
theorem cmp_zero' {f g : Int} {l m : List S30} (hfg : f = g) (h : ¬ f < 0 → l.length = m.length ∧ cmpTs l m = 0) : cmpT ⟨f, l⟩ ⟨g, m⟩ = 0 := by
  subst hfg
  by_cases hf : f < 0
  · simp [cmpT, hf, cmpI_self]
  · obtain ⟨h1, h2⟩ := h hf
    simp [cmpT, hf, cmpI_self, h1, orI, h2]
theorem cmpTs_zero_iff : ∀ l m : List S30, l.length = m.length → (cmpTs l m = 0 ↔ ∀ (j : Nat) (x y : S30), l[j]? = some x → m[j]? = some y → cmpT x y = 0)
  | [], [], _ => by simp [cmpTs]
  | x :: l, y :: m, h => by
    rw [cmpTs]
    have ih := cmpTs_zero_iff l m (by simpa using h)
    by_cases h0 : cmpT x y = 0
    · rw [if_pos h0, ih]
      constructor
      · intro h1 j a b ha hb
        cases j with
        | zero => simp at ha hb; subst ha hb; exact h0
        | succ j => simp at ha hb; exact h1 j a b ha hb
      · intro h1 j a b ha hb
        exact h1 (j + 1) a b (by simpa using ha) (by simpa using hb)
    · rw [if_neg h0]
      constructor
      · intro h1; exact absurd h1 h0
      · intro h1; exact absurd (h1 0 x y rfl rfl) h0
theorem eqv_nums : ∀ a b : S30, cmpT a b = 0 → (nodes a).map (·.f0) = (nodes b).map (·.f0) := by
  refine S30.ind ?_
  intro f l ih b h
  obtain ⟨g, m⟩ := b
  obtain ⟨rfl, h2⟩ := cmp_zero h
  by_cases hf : f < 0
  · simp [nodes, hf]
  · obtain ⟨h3, h4⟩ := h2 hf
    have key : ∀ (l m : List S30), (∀ x ∈ l, ∀ y, cmpT x y = 0 → (nodes x).map (·.f0) = (nodes y).map (·.f0)) → l.length = m.length → cmpTs l m = 0 → (nodess l).map (·.f0) = (nodess m).map (·.f0) := by
      intro l
      induction l with
      | nil => intro m _ hl _; cases m with
        | nil => rfl
        | cons => simp at hl
      | cons x l ihl =>
        intro m h hl hc
        cases m with
        | nil => simp at hl
        | cons y m =>
          rw [cmpTs] at hc
          split at hc
          · rename_i h0
            rw [nodess, nodess, List.map_append, List.map_append, h x (by simp) y h0, ihl m (fun x hx => h x (by simp [hx])) (by simpa using hl) hc]
          · rename_i h0; contradiction
    have := key l m (fun x hx y => ih x hx y) h3 h4
    simp [nodes, hf, this]
theorem countN_map (v : Int) (l : List S30) : countN v l = ((l.map (·.f0)).filter (· == v)).length := by
  unfold countN
  rw [List.filter_map, List.length_map]
  rfl
theorem eqv_count {a b : S30} (h : cmpT a b = 0) (v : Int) : countN v (nodes a) = countN v (nodes b) := by rw [countN_map, countN_map, eqv_nums a b h]
theorem eqv_fit {a b : S30} (h : cmpT a b = 0) (ha : fit a) : fit b := by
  have h1 := eqv_nums a b h
  refine ⟨by rw [← cmp_len a b h]; exact ha.1, fun x hx => ?_⟩
  have h2 : x.f0 ∈ (nodes b).map (·.f0) := List.mem_map_of_mem hx
  rw [← h1, List.mem_map] at h2
  obtain ⟨y, hy, e⟩ := h2
  rw [← e]
  exact ha.2 y hy
theorem cov_congr {a a' b b' : S30} (ha : cmpT a a' = 0) (hb : cmpT b b' = 0) : covT a b = covT a' b' := by
  rw [Bool.eq_iff_iff, covT_iff, covT_iff]
  have : ∀ x, netV a b x = netV a' b' x := fun x => by rw [netV_eq, netV_eq, eqv_count ha, eqv_count hb]
  simp only [this]
theorem gt_congr : ∀ a a' b b' : S30, cmpT a a' = 0 → cmpT b b' = 0 → gtT a b = gtT a' b' := by
  refine S30.ind ?_
  intro f l ih a' b b' ha hb
  have hcv := cov_congr ha hb
  have hla := cmp_len _ _ ha
  have hlb := cmp_len _ _ hb
  obtain ⟨f', l'⟩ := a'
  obtain ⟨g, m⟩ := b
  obtain ⟨g', m'⟩ := b'
  obtain ⟨rfl, ha2⟩ := cmp_zero ha
  obtain ⟨rfl, hb2⟩ := cmp_zero hb
  rw [gtT, gtT, hcv, hla, hlb]
  congr 1
  split
  · split
    · rfl
    · rename_i hv
      split
      · rename_i hfg
        obtain ⟨h1, h2⟩ := ha2 (by omega)
        obtain ⟨h3, h4⟩ := hb2 (by omega)
        rw [h1, h3]
        split
        · rename_i hlm
          have key : ∀ (l l' m m' : List S30), (∀ x ∈ l, ∀ a' b b' : S30, cmpT x a' = 0 → cmpT b b' = 0 → gtT x b = gtT a' b') → l.length = l'.length → m.length = m'.length → cmpTs l l' = 0 → cmpTs m m' = 0 → gtTs l m = gtTs l' m' := by
            intro l
            induction l with
            | nil => intro l' m m' _ h1 _ _ _; cases l' with
              | nil => rw [gtTs, gtTs]
              | cons => simp at h1
            | cons x l ihl =>
              intro l' m m' h h1 h3 h2 h4
              cases l' with
              | nil => simp at h1
              | cons x' l' =>
                cases m with
                | nil => cases m' with
                  | nil => rw [gtTs, gtTs]
                  | cons => simp at h3
                | cons y m =>
                  cases m' with
                  | nil => simp at h3
                  | cons y' m' =>
                    rw [cmpTs] at h2 h4
                    split at h2
                    · split at h4
                      · rename_i hx hy
                        rw [gtTs, gtTs, ihl l' m m' (fun x hx => h x (by simp [hx])) (by simpa using h1) (by simpa using h3) h2 h4, h x (by simp) x' y y' hx hy]
                        by_cases hxy : cmpT x y = 0
                        · rw [if_pos hxy, if_pos (eqv_trans (eqv_trans (eqv_symm hx) hxy) hy)]
                        · rw [if_neg hxy, if_neg (fun e => hxy (eqv_trans (eqv_trans hx e) (eqv_symm hy)))]
                      · contradiction
                    · contradiction
          exact key l l' m m' ih h1 h3 h2 h4
        · rfl
      · rfl
  · rfl
theorem kcmp_congr {a a' b b' : S30} (ha : cmpT a a' = 0) (hb : cmpT b b' = 0) : kcmp a b = kcmp a' b' := by
  unfold kcmp
  rw [gt_congr a a' b b' ha hb, gt_congr b b' a a' hb ha]
  by_cases h : cmpT a b = 0
  · rw [if_pos h, if_pos (eqv_trans (eqv_trans (eqv_symm ha) h) hb)]
  · rw [if_neg h, if_neg (fun e => h (eqv_trans (eqv_trans ha e) (eqv_symm hb)))]
def atT : List Int → S30 → Option S30
  | [], t => some t
  | i :: q, t => if i < 0 ∨ ((partsT t).length : Int) ≤ i then none else atT q (rd_T30 (partsT t) i)
def put0 : List Int → S30 → S30 → Option S30
  | [], _, u => some u
  | i :: q, t, u => if i < 0 ∨ ((partsT t).length : Int) ≤ i then none else (put0 q (rd_T30 (partsT t) i) u).map fun x => ⟨t.f0, t.f1.set i.toNat x⟩
theorem parts_at {t : S30} {i : Int} (h : ¬ (i < 0 ∨ ((partsT t).length : Int) ≤ i)) : ¬ t.f0 < 0 ∧ ∃ hi : i.toNat < t.f1.length, rd_T30 (partsT t) i = t.f1[i.toNat] := by
  unfold partsT at *
  by_cases hf : t.f0 < 0
  · simp [hf] at h; omega
  · simp only [hf, if_false] at *
    refine ⟨fun h => h, by omega, ?_⟩
    rw [← rdC_at t.f1 i.toNat (by omega)]
    congr 1
    omega
theorem put_eqv : ∀ (q : List Int) (t u : S30), match put0 q t u, putT q t u with
    | some z, some z' => cmpT z' z = 0
    | none, none => True
    | _, _ => False
  | [], t, u => by simp only [put0, putT]; exact cmp_clone u
  | i :: q, t, u => by
    simp only [put0, putT]
    by_cases h : i < 0 ∨ ((partsT t).length : Int) ≤ i
    · rw [if_pos h, if_pos h]; trivial
    · rw [if_neg h, if_neg h]
      obtain ⟨hf, hi, hrd⟩ := parts_at h
      have ih := put_eqv q (rd_T30 (partsT t) i) u
      cases h0 : put0 q (rd_T30 (partsT t) i) u with
      | none => rw [h0] at ih; cases h1 : putT q (rd_T30 (partsT t) i) u with
        | none => trivial
        | some z' => rw [h1] at ih; exact ih
      | some z =>
        rw [h0] at ih
        cases h1 : putT q (rd_T30 (partsT t) i) u with
        | none => rw [h1] at ih; exact ih
        | some z' =>
          rw [h1] at ih
          simp only [Option.map_some]
          refine cmp_zero' rfl (fun _ => ?_)
          have hp : (cloneT t).f1 = t.f1.map cloneT := by rw [parts_clone]; unfold partsT; rw [if_neg hf]
          have hlen : ((cloneT t).f1.set i.toNat z').length = (t.f1.set i.toNat z).length := by rw [hp]; simp
          refine ⟨hlen, (cmpTs_zero_iff _ _ hlen).2 (fun j x y hx hy => ?_)⟩
          rw [hp] at hx
          by_cases hj : j = i.toNat
          · subst hj
            rw [List.getElem?_set_self (by simpa using hi)] at hx
            rw [List.getElem?_set_self hi] at hy
            injection hx with hx
            injection hy with hy
            rw [← hx, ← hy]
            exact ih
          · rw [List.getElem?_set_ne (fun e => hj e.symm)] at hx hy
            rw [List.getElem?_map, hy] at hx
            injection hx with hx
            rw [← hx]
            exact cmp_clone y
theorem countN_nodes {f : Int} {l : List S30} (hf : ¬ f < 0) (v : Int) (hv : v < 0) : countN v (nodes ⟨f, l⟩) = countN v (nodess l) := by
  have hn : nodes ⟨f, l⟩ = ⟨f, l⟩ :: nodess l := by simp [nodes, hf]
  rw [hn]
  unfold countN
  rw [List.filter_cons_of_neg]
  simp
  omega
theorem nodess_app (a b : List S30) : nodess (a ++ b) = nodess a ++ nodess b := by
  induction a with
  | nil => rfl
  | cons x a ih => rw [List.cons_append, nodess, nodess, ih, List.append_assoc]
theorem nodess_split (l : List S30) (i : Nat) (hi : i < l.length) (y : S30) : nodess (l.set i y) = nodess (l.take i) ++ nodes y ++ nodess (l.drop (i + 1)) := by
  have h : l.set i y = l.take i ++ ([y] ++ l.drop (i + 1)) := by rw [List.set_eq_take_append_cons_drop, if_pos hi]; rfl
  rw [h, nodess_app, nodess_app]
  simp [nodess]
theorem nodess_split' (l : List S30) (i : Nat) (hi : i < l.length) : nodess l = nodess (l.take i) ++ nodes l[i] ++ nodess (l.drop (i + 1)) := by
  have := nodess_split l i hi l[i]
  rw [List.set_getElem_self] at this
  exact this
theorem cmpTs_self : ∀ b : List S30, cmpTs b b = 0
  | [] => by rw [cmpTs]
  | x :: b => by rw [cmpTs, if_pos (cmp_self x)]; exact cmpTs_self b
theorem gtTs_ctx (x y : S30) (b : List S30) : ∀ a : List S30, gtTs (a ++ x :: b) (a ++ y :: b) = gtT x y
  | [] => by
    show gtTs (x :: b) (y :: b) = _
    rw [gtTs]
    by_cases h : cmpT x y = 0
    · rw [if_pos h, gtTs_same b b (cmpTs_self b), gt_same h]
    · rw [if_neg h]
  | z :: a => by
    show gtTs (z :: (a ++ x :: b)) (z :: (a ++ y :: b)) = _
    rw [gtTs, if_pos (cmp_self z)]
    exact gtTs_ctx x y b a
theorem cmpTs_ctx (x y : S30) (b : List S30) : ∀ a : List S30, cmpTs (a ++ x :: b) (a ++ y :: b) = cmpT x y
  | [] => by
    show cmpTs (x :: b) (y :: b) = _
    rw [cmpTs]
    by_cases h : cmpT x y = 0
    · rw [if_pos h, cmpTs_self, h]
    · rw [if_neg h]
  | z :: a => by
    show cmpTs (z :: (a ++ x :: b)) (z :: (a ++ y :: b)) = _
    rw [cmpTs, if_pos (cmp_self z)]
    exact cmpTs_ctx x y b a
theorem set_form (l : List S30) (i : Nat) (hi : i < l.length) (y : S30) : l.set i y = l.take i ++ y :: l.drop (i + 1) := by rw [List.set_eq_take_append_cons_drop, if_pos hi]
theorem ctx_one {f : Int} {l : List S30} {i : Nat} (hf : ¬ f < 0) (hi : i < l.length) (x y : S30) : gtT ⟨f, l.set i x⟩ ⟨f, l.set i y⟩ = gtT x y ∧ cmpT ⟨f, l.set i x⟩ ⟨f, l.set i y⟩ = cmpT x y := by
  have hl : ∀ z : S30, (nodes ⟨f, l.set i z⟩).length = 1 + (nodess (l.take i)).length + (nodes z).length + (nodess (l.drop (i + 1))).length := fun z => by
    have hn : nodes ⟨f, l.set i z⟩ = ⟨f, l.set i z⟩ :: nodess (l.set i z) := by simp [nodes, hf]
    rw [hn, List.length_cons, nodess_split l i hi]
    simp only [List.length_append]
    omega
  have hc : ∀ (z : S30) (v : Int), v < 0 → countN v (nodes ⟨f, l.set i z⟩) = countN v (nodess (l.take i)) + countN v (nodes z) + countN v (nodess (l.drop (i + 1))) := fun z v hv => by
    rw [countN_nodes hf v hv, nodess_split l i hi, countN_append, countN_append]
  have hcov : covT ⟨f, l.set i x⟩ ⟨f, l.set i y⟩ = covT x y := by
    rw [Bool.eq_iff_iff, covT_iff, covT_iff]
    have : ∀ v, netV ⟨f, l.set i x⟩ ⟨f, l.set i y⟩ v = netV x y v := fun v => by
      rw [netV_eq, netV_eq]
      split
      · rename_i hv
        rw [hc x v hv, hc y v hv]
        omega
      · rfl
    simp only [this]
  have hcm : cmpT ⟨f, l.set i x⟩ ⟨f, l.set i y⟩ = cmpT x y := by
    have h1 : cmpT ⟨f, l.set i x⟩ ⟨f, l.set i y⟩ = cmpTs (l.set i x) (l.set i y) := by simp [cmpT, hf, cmpI_self, orI]
    rw [h1, set_form l i hi, set_form l i hi, cmpTs_ctx]
  refine ⟨?_, hcm⟩
  rw [gtT, hcov, hl, hl]
  by_cases hn : (nodes x).length = (nodes y).length
  · rw [if_pos (by omega), if_neg (by omega), if_pos rfl, if_pos (by simp), set_form l i hi, set_form l i hi, gtTs_ctx]
    cases h : gtT x y with
    | false => rw [Bool.and_false]
    | true =>
      obtain ⟨fx, lx⟩ := x
      obtain ⟨fy, ly⟩ := y
      rw [gtT, Bool.and_eq_true] at h
      rw [h.1]
      rfl
  · rw [if_neg (by omega)]
    obtain ⟨fx, lx⟩ := x
    obtain ⟨fy, ly⟩ := y
    rw [gtT, if_neg hn]
    congr 1
    rw [decide_eq_decide]
    omega
theorem put_ctx : ∀ (q : List Int) (t x y z1 z2 : S30), put0 q t x = some z1 → put0 q t y = some z2 → gtT z1 z2 = gtT x y ∧ cmpT z1 z2 = cmpT x y
  | [], t, x, y, z1, z2, h1, h2 => by
    simp only [put0, Option.some.injEq] at h1 h2
    subst h1 h2
    exact ⟨rfl, rfl⟩
  | i :: q, t, x, y, z1, z2, h1, h2 => by
    simp only [put0] at h1 h2
    by_cases h : i < 0 ∨ ((partsT t).length : Int) ≤ i
    · rw [if_pos h] at h1; cases h1
    · rw [if_neg h] at h1 h2
      obtain ⟨hf, hi, hrd⟩ := parts_at h
      rw [Option.map_eq_some_iff] at h1 h2
      obtain ⟨a, ha, rfl⟩ := h1
      obtain ⟨b, hb, rfl⟩ := h2
      have ih := put_ctx q _ x y a b ha hb
      have hc := ctx_one hf hi a b
      exact ⟨hc.1.trans ih.1, hc.2.trans ih.2⟩
theorem put_some : ∀ (q : List Int) (t s u : S30), atT q t = some s → ∃ z, put0 q t u = some z
  | [], t, s, u, h => ⟨u, rfl⟩
  | i :: q, t, s, u, h => by
    simp only [atT, put0] at h ⊢
    by_cases hc : i < 0 ∨ ((partsT t).length : Int) ≤ i
    · rw [if_pos hc] at h; cases h
    · rw [if_neg hc] at h ⊢
      obtain ⟨z, hz⟩ := put_some q _ s u h
      exact ⟨_, by rw [hz]; rfl⟩
theorem parts_set {f : Int} {l : List S30} (hf : ¬ f < 0) : partsT ⟨f, l⟩ = l := by unfold partsT; rw [if_neg hf]
theorem put_len : ∀ (q : List Int) (t s u z : S30), atT q t = some s → put0 q t u = some z → (nodes z).length + (nodes s).length = (nodes t).length + (nodes u).length
  | [], t, s, u, z, h, h2 => by simp only [atT, put0, Option.some.injEq] at h h2; subst h h2; omega
  | i :: q, t, s, u, z, h, h2 => by
    simp only [atT, put0] at h h2
    by_cases hc : i < 0 ∨ ((partsT t).length : Int) ≤ i
    · rw [if_pos hc] at h; cases h
    · rw [if_neg hc] at h h2
      obtain ⟨hf, hi, hrd⟩ := parts_at hc
      rw [Option.map_eq_some_iff] at h2
      obtain ⟨a, ha, rfl⟩ := h2
      have ih := put_len q _ s u a h ha
      rw [hrd] at ih
      have hn : ∀ l : List S30, (nodes ⟨t.f0, l⟩).length = 1 + (nodess l).length := fun l => by simp [nodes, hf]; omega
      have h0 := hn t.f1
      rw [S30.eta] at h0
      have h1 := congrArg List.length (nodess_split' t.f1 i.toNat hi)
      rw [hn, nodess_split t.f1 i.toNat hi, h0, h1]
      simp only [List.length_append]
      omega
theorem put_nums : ∀ (q : List Int) (t u z : S30), put0 q t u = some z → ∀ x ∈ nodes z, (∃ y ∈ nodes t, x.f0 = y.f0) ∨ (∃ y ∈ nodes u, x.f0 = y.f0)
  | [], t, u, z, h, x, hx => by simp only [put0, Option.some.injEq] at h; subst h; exact .inr ⟨x, hx, rfl⟩
  | i :: q, t, u, z, h, x, hx => by
    simp only [put0] at h
    by_cases hc : i < 0 ∨ ((partsT t).length : Int) ≤ i
    · rw [if_pos hc] at h; cases h
    · rw [if_neg hc] at h
      obtain ⟨hf, hi, hrd⟩ := parts_at hc
      rw [Option.map_eq_some_iff] at h
      obtain ⟨a, ha, rfl⟩ := h
      have ih := put_nums q _ u a ha
      rw [hrd] at ih
      have hn : nodes t = t :: nodess t.f1 := by
        obtain ⟨f, l⟩ := t
        have hf' : ¬ f < 0 := hf
        simp [nodes, hf']
      have hn2 : nodes ⟨t.f0, t.f1.set i.toNat a⟩ = ⟨t.f0, t.f1.set i.toNat a⟩ :: nodess (t.f1.set i.toNat a) := by simp [nodes, hf]
      rw [hn2, nodess_split t.f1 i.toNat hi] at hx
      have hsp := nodess_split' t.f1 i.toNat hi
      rcases List.mem_cons.1 hx with rfl | hx
      · exact .inl ⟨t, by rw [hn]; exact List.mem_cons_self, rfl⟩
      · rw [List.mem_append, List.mem_append] at hx
        rcases hx with (hx | hx) | hx
        · exact .inl ⟨x, by rw [hn, hsp]; exact List.mem_cons_of_mem _ (List.mem_append_left _ (List.mem_append_left _ hx)), rfl⟩
        · rcases ih x hx with ⟨y, hy, e⟩ | h2
          · exact .inl ⟨y, by rw [hn, hsp]; exact List.mem_cons_of_mem _ (List.mem_append_left _ (List.mem_append_right _ hy)), e⟩
          · exact .inr h2
        · exact .inl ⟨x, by rw [hn, hsp]; exact List.mem_cons_of_mem _ (List.mem_append_right _ hx), rfl⟩
theorem put_fit {q : List Int} {t u z : S30} (h : put0 q t u = some z) (hn : (nodes z).length ≤ 1000000) (ht : fit t) (hu : fit u) : fit z := by
  refine ⟨hn, fun x hx => ?_⟩
  rcases put_nums q t u z h x hx with ⟨y, hy, e⟩ | ⟨y, hy, e⟩
  · rw [e]; exact ht.2 y hy
  · rw [e]; exact hu.2 y hy
mutual
theorem flatP_at : ∀ (pre : List Int) (t : S30), ∀ e ∈ flatP pre t, ∃ q, e.1 = pre ++ q ∧ atT q t = some e.2
  | pre, ⟨f, l⟩, e, he => by
    rw [flatP] at he
    rcases List.mem_cons.1 he with rfl | he
    · exact ⟨[], by simp, rfl⟩
    · split at he
      · cases he
      · rename_i hf
        obtain ⟨i, q, h1, h2, h3⟩ := flatPs_at pre 0 l e he
        refine ⟨((i : Nat) : Int) :: q, by simpa using h1, ?_⟩
        simp only [atT]
        rw [parts_set hf, if_neg (by omega), rdC_at l i h2]
        exact h3 h2
theorem flatPs_at : ∀ (pre : List Int) (k : Nat) (l : List S30), ∀ e ∈ flatPs pre k l, ∃ (i : Nat) (q : List Int), e.1 = pre ++ ((k + i : Nat) : Int) :: q ∧ i < l.length ∧ ∀ h : i < l.length, atT q l[i] = some e.2
  | _, _, [], e, he => by cases he
  | pre, k, x :: r, e, he => by
    rw [flatPs] at he
    rcases List.mem_append.1 he with he | he
    · obtain ⟨q, h1, h2⟩ := flatP_at _ x e he
      exact ⟨0, q, by rw [h1]; simp, by simp, fun _ => h2⟩
    · obtain ⟨i, q, h1, h2, h3⟩ := flatPs_at pre (k + 1) r e he
      refine ⟨i + 1, q, by rw [h1, show k + 1 + i = k + (i + 1) by omega], by simp; omega, fun h => ?_⟩
      simpa using h3 h2
end
end Go.Proofs.Ytpfddihcikiofaa.P
end

section
namespace Go.Proofs.Ytpfddihcikiofaa.P
open Go.RowKit Go.Proofs.YtpfddihcikiofaaW.PrintWords Go.Proofs.YtpfddihcikiofaaW.PrintLast Go.Proofs.YtpfddihcikiofaaW.PrintMore
set_option linter.unusedVariables false
set_option linter.unusedSimpArgs false
mutual
def mapT (g : Int → S30) : S30 → S30
  | ⟨f, l⟩ => if f < 0 then g f else ⟨f, mapTs g l⟩
def mapTs (g : Int → S30) : List S30 → List S30
  | [] => []
  | x :: r => mapT g x :: mapTs g r
end
theorem mapTs_eq (g : Int → S30) (l : List S30) : mapTs g l = l.map (mapT g) := by
  induction l with
  | nil => rfl
  | cons x l ih => rw [mapTs, ih]; rfl
def sumI (h : Int → Nat) : List Int → Nat
  | [] => 0
  | x :: r => h x + sumI h r
theorem sumI_append (h : Int → Nat) (a b : List Int) : sumI h (a ++ b) = sumI h a + sumI h b := by
  induction a with
  | nil => simp [sumI]
  | cons x a ih => rw [List.cons_append, sumI, sumI, ih]; omega
theorem sumI_erase (h : Int → Nat) (x : Int) : ∀ A : List Int, x ∈ A → sumI h A = h x + sumI h (A.erase x)
  | [], hx => by cases hx
  | y :: A, hx => by
    by_cases hxy : y = x
    · subst hxy; rw [List.erase_cons_head, sumI]
    · have hm : x ∈ A := (List.mem_cons.1 hx).resolve_left (fun e => hxy e.symm)
      rw [List.erase_cons_tail (by simpa using hxy), sumI, sumI, sumI_erase h x A hm]
      omega
theorem sumI_le (h : Int → Nat) : ∀ B A : List Int, (∀ v, B.count v ≤ A.count v) → sumI h B ≤ sumI h A
  | [], A, _ => Nat.zero_le _
  | x :: B, A, hc => by
    have hx : x ∈ A := by
      have := hc x
      rw [List.count_cons_self] at this
      exact List.count_pos_iff.1 (by omega)
    rw [sumI_erase h x A hx, sumI]
    have := sumI_le h B (A.erase x) (fun v => by
      have h1 := hc v
      by_cases hv : v = x
      · subst hv; rw [List.count_cons_self] at h1; rw [List.count_erase_self]; omega
      · rw [List.count_cons_of_ne (fun e => hv e.symm)] at h1
        rw [List.count_erase_of_ne hv]
        exact h1)
    omega
def vsN (l : List S30) : List Int := (l.map (·.f0)).filter (· < 0)
theorem vsN_append (a b : List S30) : vsN (a ++ b) = vsN a ++ vsN b := by unfold vsN; rw [List.map_append, List.filter_append]
theorem vsN_count {v : Int} (hv : v < 0) (l : List S30) : (vsN l).count v = countN v l := by
  rw [countN_map]
  unfold vsN
  rw [List.count_filter (by simpa using hv), List.count_eq_countP, List.countP_eq_length_filter]
theorem vsN_neg {v : Int} (l : List S30) (h : v ∈ vsN l) : v < 0 := by
  unfold vsN at h
  have := (List.mem_filter.1 h).2
  simpa using this
theorem vsN_node {f : Int} (hf : ¬ f < 0) (l : List S30) : vsN (nodes ⟨f, l⟩) = vsN (nodess l) := by
  have hn : nodes ⟨f, l⟩ = ⟨f, l⟩ :: nodess l := by simp [nodes, hf]
  rw [hn]
  unfold vsN
  simp [hf]
theorem vsN_var {f : Int} (hf : f < 0) (l : List S30) : vsN (nodes ⟨f, l⟩) = [f] := by
  have hn : nodes ⟨f, l⟩ = [⟨f, l⟩] := by simp [nodes, hf]
  rw [hn]
  unfold vsN
  simp [hf]
theorem map_len (g : Int → S30) : ∀ t : S30, (nodes (mapT g t)).length = (nodes t).length + sumI (fun v => (nodes (g v)).length - 1) (vsN (nodes t)) := by
  refine S30.ind ?_
  intro f l ih
  by_cases hf : f < 0
  · rw [vsN_var hf]
    have hn : nodes ⟨f, l⟩ = [⟨f, l⟩] := by simp [nodes, hf]
    have := nodes_pos (g f)
    simp only [mapT, hf, if_true, hn, List.length_singleton, sumI]
    omega
  · rw [vsN_node hf]
    have hn : ∀ m : List S30, nodes ⟨f, m⟩ = ⟨f, m⟩ :: nodess m := fun m => by simp [nodes, hf]
    simp only [mapT, hf, if_false]
    rw [hn, hn, List.length_cons, List.length_cons]
    have key : ∀ l : List S30, (∀ x ∈ l, (nodes (mapT g x)).length = (nodes x).length + sumI (fun v => (nodes (g v)).length - 1) (vsN (nodes x))) → (nodess (mapTs g l)).length = (nodess l).length + sumI (fun v => (nodes (g v)).length - 1) (vsN (nodess l)) := by
      intro l
      induction l with
      | nil => intro _; simp [mapTs, nodess, vsN, sumI]
      | cons x l ihl =>
        intro h
        rw [mapTs, nodess, nodess, List.length_append, List.length_append, vsN_append, sumI_append, h x (by simp), ihl (fun y hy => h y (by simp [hy]))]
        omega
    rw [key l ih]
    omega
theorem map_count (g : Int → S30) {v : Int} (hv : v < 0) : ∀ t : S30, countN v (nodes (mapT g t)) = sumI (fun x => countN v (nodes (g x))) (vsN (nodes t)) := by
  refine S30.ind ?_
  intro f l ih
  by_cases hf : f < 0
  · rw [vsN_var hf]
    simp only [mapT, hf, if_true, sumI]
    omega
  · rw [vsN_node hf]
    simp only [mapT, hf, if_false]
    rw [countN_nodes hf v hv]
    have key : ∀ l : List S30, (∀ x ∈ l, countN v (nodes (mapT g x)) = sumI (fun x => countN v (nodes (g x))) (vsN (nodes x))) → countN v (nodess (mapTs g l)) = sumI (fun x => countN v (nodes (g x))) (vsN (nodess l)) := by
      intro l
      induction l with
      | nil => intro _; simp [mapTs, nodess, vsN, sumI, countN]
      | cons x l ihl =>
        intro h
        rw [mapTs, nodess, nodess, countN_append, vsN_append, sumI_append, h x (by simp), ihl (fun y hy => h y (by simp [hy]))]
    exact key l ih
theorem map_congr (g : Int → S30) : ∀ a b : S30, cmpT a b = 0 → cmpT (mapT g a) (mapT g b) = 0 := by
  refine S30.ind ?_
  intro f l ih b h
  obtain ⟨h', m⟩ := b
  obtain ⟨rfl, h2⟩ := cmp_zero h
  by_cases hf : f < 0
  · simp only [mapT, hf, if_true]; exact cmp_self _
  · obtain ⟨h3, h4⟩ := h2 hf
    simp only [mapT, hf, if_false]
    refine cmp_zero' rfl (fun _ => ⟨by rw [mapTs_eq, mapTs_eq]; simpa using h3, (cmpTs_zero_iff _ _ (by rw [mapTs_eq, mapTs_eq]; simpa using h3)).2 (fun j x y hx hy => ?_)⟩)
    rw [mapTs_eq, List.getElem?_map] at hx hy
    obtain ⟨x0, hx0, rfl⟩ := Option.map_eq_some_iff.1 hx
    obtain ⟨y0, hy0, rfl⟩ := Option.map_eq_some_iff.1 hy
    exact ih x0 (List.mem_of_getElem? hx0) y0 ((cmpTs_zero_iff l m h3).1 h4 j x0 y0 hx0 hy0)
theorem cov_count {a b : S30} (h : covT a b = true) (v : Int) : (vsN (nodes b)).count v ≤ (vsN (nodes a)).count v := by
  by_cases hv : v < 0
  · rw [vsN_count hv, vsN_count hv]
    have := (covT_iff a b).1 h v
    rw [netV_eq, if_pos hv] at this
    omega
  · have : (vsN (nodes b)).count v = 0 := List.count_eq_zero.2 (fun hm => hv (vsN_neg _ hm))
    omega
theorem map_cov (g : Int → S30) {a b : S30} (h : covT a b = true) : covT (mapT g a) (mapT g b) = true := by
  rw [covT_iff]
  intro v
  rw [netV_eq]
  by_cases hv : v < 0
  · rw [if_pos hv, map_count g hv, map_count g hv]
    have := sumI_le (fun x => countN v (nodes (g x))) _ _ (cov_count h)
    omega
  · rw [if_neg hv]; exact Int.le_refl _
theorem map_grow (g : Int → S30) {a b : S30} (h : covT a b = true) : ∃ d : Nat, (nodes (mapT g a)).length + (nodes b).length = (nodes (mapT g b)).length + (nodes a).length + d := by
  rw [map_len, map_len]
  have := sumI_le (fun v => (nodes (g v)).length - 1) _ _ (cov_count h)
  exact ⟨sumI (fun v => (nodes (g v)).length - 1) (vsN (nodes a)) - sumI (fun v => (nodes (g v)).length - 1) (vsN (nodes b)), by omega⟩
theorem gt_ne' {a b : S30} (h : gtT a b = true) : cmpT a b ≠ 0 := fun e => by rw [gt_same e] at h; cases h
theorem gt_stable (g : Int → S30) : ∀ a b : S30, gtT a b = true → gtT (mapT g a) (mapT g b) = true := by
  refine S30.ind ?_
  intro f l ih b h
  obtain ⟨f2, m⟩ := b
  have h0 := h
  rw [gtT, Bool.and_eq_true] at h
  obtain ⟨hcov, h⟩ := h
  have hc2 := map_cov g hcov
  obtain ⟨d, hd⟩ := map_grow g hcov
  have hgt : ∀ x y : S30, covT x y = true → (nodes y).length < (nodes x).length → gtT x y = true := by
    intro x y hxy hlt
    obtain ⟨fx, lx⟩ := x
    obtain ⟨fy, ly⟩ := y
    rw [gtT, hxy, if_neg (by omega), decide_eq_true hlt]
    rfl
  by_cases hn : (nodes ⟨f, l⟩).length = (nodes ⟨f2, m⟩).length
  · rw [if_pos hn] at h
    by_cases hd0 : d = 0
    · by_cases hv : f < 0 ∨ f2 < 0
      · rw [if_pos hv] at h; cases h
      · rw [if_neg hv] at h
        have hf : ¬ f < 0 := by omega
        have hf2 : ¬ f2 < 0 := by omega
        simp only [mapT, hf, hf2, if_false] at hc2 hd ⊢
        rw [gtT, hc2, if_pos (by omega), if_neg hv, Bool.true_and]
        by_cases hff : f = f2
        · rw [if_pos hff] at h ⊢
          by_cases hlm : l.length = m.length
          · rw [if_pos hlm] at h
            rw [if_pos (by rw [mapTs_eq, mapTs_eq]; simpa using hlm)]
            have key : ∀ l m : List S30, (∀ x ∈ l, ∀ b, gtT x b = true → gtT (mapT g x) (mapT g b) = true) → gtTs l m = true → gtTs (mapTs g l) (mapTs g m) = true := by
              intro l
              induction l with
              | nil => intro m _ h; rw [gtTs] at h; cases h
              | cons x l ihl =>
                intro m hx h
                cases m with
                | nil => rw [gtTs] at h; cases h
                | cons y m =>
                  rw [mapTs, mapTs, gtTs]
                  rw [gtTs] at h
                  by_cases hxy : cmpT x y = 0
                  · rw [if_pos hxy] at h
                    rw [if_pos (map_congr g x y hxy)]
                    exact ihl m (fun x hx' => hx x (by simp [hx'])) h
                  · rw [if_neg hxy] at h
                    have h9 := hx x (by simp) y h
                    rw [if_neg (gt_ne' h9)]
                    exact h9
            exact key l m ih h
          · rw [if_neg hlm] at h
            rw [if_neg (by rw [mapTs_eq, mapTs_eq]; simpa using hlm), mapTs_eq, mapTs_eq, List.length_map, List.length_map]
            exact h
        · rw [if_neg hff] at h ⊢
          exact h
    · exact hgt _ _ hc2 (by omega)
  · rw [if_neg hn, decide_eq_true_eq] at h
    exact hgt _ _ hc2 (by omega)
theorem kcmp_stable (g : Int → S30) {a b : S30} (h : kcmp a b ≠ 2) : kcmp (mapT g a) (mapT g b) = kcmp a b := by
  unfold kcmp at h ⊢
  by_cases h0 : cmpT a b = 0
  · rw [if_pos h0, if_pos (map_congr g a b h0)]
  · rw [if_neg h0] at h ⊢
    by_cases h1 : gtT a b = true
    · have h2 := gt_stable g a b h1
      rw [if_pos h1, if_neg (gt_ne' h2), if_pos h2]
    · rw [if_neg h1] at h ⊢
      by_cases h3 : gtT b a = true
      · have h4 := gt_stable g b a h3
        have h5 := gt_ne' h4
        have h6 := gt_asymm _ _ h4
        rw [if_pos h3, if_neg (fun e => h5 (eqv_symm e)), h6, if_neg (by decide), if_pos h4]
      · rw [if_neg h3] at h; exact absurd rfl h
end Go.Proofs.Ytpfddihcikiofaa.P
end

section
namespace Go.Proofs.Ytpfddihcikiofaa.P
open Go.RowKit Go.Proofs.YtpfddihcikiofaaW.PrintWords Go.Proofs.YtpfddihcikiofaaW.PrintLast Go.Proofs.YtpfddihcikiofaaW.PrintMore
attribute [local go_sem] max2_int min2_int max_two min_two max_three min_three max_four min_four
set_option linter.unusedVariables false
set_option linter.unusedSimpArgs false
def soriteslaw07_Fine.l0 : Nat → List (S112) → Int → Option (Bool)
  | 0, _, _ => none
  | k + 1, x0, x3 => if x3 < (x0.length : Int) then (if 0 ≤ x3 then (if ((rd_T112 x0 x3).f0) < 0 then (some false) else (if ((rd_T112 x0 x3).f0) > 1000 then (some false) else ((soriteslaw06_Small.f k ((rd_T112 x0 x3).f1.f0) ((rd_T112 x0 x3).f1.f1) 20 10).bind fun t353 => (if t353 < 0 then (some false) else (soriteslaw07_Fine.l0 k x0 (wrap64 (x3 + 1))))))) else (none)) else (some (decide ((x0.length : Int) ≤ 8)))
def soriteslaw07_Fine.f (k : Nat) (l0 : List (S112)) : Option (Bool) := soriteslaw07_Fine.l0 k l0 0
set_option maxHeartbeats 8000000 in
set_option maxRecDepth 100000 in
theorem soriteslaw07_Fine.calls (k : Nat) (A0 : Option Addr) (c0 : Nat) (l0 : List (S112)) (r : Bool) (w : World) (hr0 : Kd.C k112 w A0 l0.length l0) (hc0 : l0.length ≤ c0) (h : soriteslaw07_Fine.f k l0 = some r) :
    Calls Try.prog 51 #[.slice A0 l0.length c0] w fun e w' => e = .returned (.bool r) ∧ Below w.heap.size w w' := by
  have hu24 := Try.underlying24
  have HR0 := Aside0.mk hr0
  have HC0 := Aside0.mk hc0
  clear hr0 hc0
  have HB := Aside0.mk (Below.refl w.heap.size w)
  have H : (soriteslaw07_Fine.l0 k l0 0) = some r := h
  clear h
  have H' := Aside0.mk H
  clear H
  go_enter Try.func51, Try.ntmps51
  go_wp2
  go_loopg [3] k (fun kq v3 w' => ∃ (x3_1 : Int), v3 = .int .i64 x3_1 ∧ Aside0 (soriteslaw07_Fine.l0 kq l0 x3_1 = some r) ∧ Aside0 (kq ≤ k) ∧ Aside0 (Below w.heap.size w w'))
  case atStart => exact ⟨(0), (by first | rfl | (simp; done) | (simp [*]; done)), H', ⟨Nat.le_refl _⟩, ⟨by repeat (first | (with_reducible first | exact HB.out | apply below_alloc | apply pw_below_drewN | apply below_drew1) | exact HB.out)⟩⟩
  case round =>
    clear H'
    obtain ⟨x3_1, rfl, HA, HK1, HB⟩ := hrel
    cases gk with
    | zero => exact absurd HA.out (by simp [soriteslaw07_Fine.l0])
    | succ k1 =>
      have H := HA.out
      clear HA
      simp only [soriteslaw07_Fine.l0] at H
      by_cases c2 : x3_1 < (l0.length : Int)
      · rw [if_pos c2] at H
        have c2b0 : decide (x3_1 < (l0.length : Int)) = true := decide_eq_true c2
        clear c2
        by_cases c3 : 0 ≤ x3_1
        · rw [if_pos c3] at H
          have c3b0 : decide (0 ≤ x3_1) = true := decide_eq_true c3
          clear c3
          by_cases c4 : ((rd_T112 l0 x3_1).f0) < 0
          · rw [if_pos c4] at H
            have c4b0 : decide (((rd_T112 l0 x3_1).f0) < 0) = true := decide_eq_true c4
            clear c4
            obtain rfl := Option.some.inj H
            have p350 : 0 ≤ (x3_1 : Int) := of_decide_eq_true (by first | (with_reducible assumption) | assumption)
            have q350 : x3_1 < (l0.length : Int) := of_decide_eq_true (by first | (with_reducible assumption) | assumption)
            obtain ⟨ad350, A350_2, c350_2, e350, hx350_0, hx350_1, hx350_2, hl350_2, hi350_2⟩ := at_T112 HR0.out x3_1 p350 q350
            cases e350
            replace hx350_0 := (HB.out.cell (World.block_lt_of_cell? w _ hx350_0)).trans hx350_0
            replace hx350_1 := (HB.out.cell (World.block_lt_of_cell? w _ hx350_1)).trans hx350_1
            replace hx350_2 := (HB.out.cell (World.block_lt_of_cell? w _ hx350_2)).trans hx350_2
            have HR350_2 := Aside0.mk hi350_2
            have HC350_2 := Aside0.mk hl350_2
            clear hi350_2 hl350_2
            replace p350 := eq_true p350
            replace q350 := eq_true q350
            go_wp2
            go_ret
            exact ⟨by first | rfl | (simp [errW_none, errW_some] <;> rfl) | (simp [*, errW_none, errW_some] <;> rfl), by repeat (first | (with_reducible first | exact HB.out | apply below_alloc | apply pw_below_drewN | apply below_drew1) | exact HB.out)⟩
          · rw [if_neg c4] at H
            have c4b0 : decide (((rd_T112 l0 x3_1).f0) < 0) = false := decide_eq_false c4
            clear c4
            by_cases c5 : ((rd_T112 l0 x3_1).f0) > 1000
            · rw [if_pos c5] at H
              have c5b0 : decide (1000 < ((rd_T112 l0 x3_1).f0)) = true := decide_eq_true c5
              clear c5
              obtain rfl := Option.some.inj H
              have p350 : 0 ≤ (x3_1 : Int) := of_decide_eq_true (by first | (with_reducible assumption) | assumption)
              have q350 : x3_1 < (l0.length : Int) := of_decide_eq_true (by first | (with_reducible assumption) | assumption)
              obtain ⟨ad350, A350_2, c350_2, e350, hx350_0, hx350_1, hx350_2, hl350_2, hi350_2⟩ := at_T112 HR0.out x3_1 p350 q350
              cases e350
              replace hx350_0 := (HB.out.cell (World.block_lt_of_cell? w _ hx350_0)).trans hx350_0
              replace hx350_1 := (HB.out.cell (World.block_lt_of_cell? w _ hx350_1)).trans hx350_1
              replace hx350_2 := (HB.out.cell (World.block_lt_of_cell? w _ hx350_2)).trans hx350_2
              have HR350_2 := Aside0.mk hi350_2
              have HC350_2 := Aside0.mk hl350_2
              clear hi350_2 hl350_2
              replace p350 := eq_true p350
              replace q350 := eq_true q350
              have p351 : 0 ≤ (x3_1 : Int) := of_decide_eq_true (by first | (with_reducible assumption) | assumption)
              have q351 : x3_1 < (l0.length : Int) := of_decide_eq_true (by first | (with_reducible assumption) | assumption)
              obtain ⟨ad351, A351_2, c351_2, e351, hx351_0, hx351_1, hx351_2, hl351_2, hi351_2⟩ := at_T112 HR0.out x3_1 p351 q351
              obtain rfl : ad350 = ad351 := (by injection e351)
              replace hx351_0 := (HB.out.cell (World.block_lt_of_cell? w _ hx351_0)).trans hx351_0
              replace hx351_1 := (HB.out.cell (World.block_lt_of_cell? w _ hx351_1)).trans hx351_1
              replace hx351_2 := (HB.out.cell (World.block_lt_of_cell? w _ hx351_2)).trans hx351_2
              have HR351_2 := Aside0.mk hi351_2
              have HC351_2 := Aside0.mk hl351_2
              clear hi351_2 hl351_2
              replace p351 := eq_true p351
              replace q351 := eq_true q351
              have ea_ := Option.some.inj (hx350_2.symm.trans hx351_2)
              injection ea_ with ea_ en_ ec_
              subst ea_
              subst ec_
              clear en_
              go_wp2
              go_ret
              exact ⟨by first | rfl | (simp [errW_none, errW_some] <;> rfl) | (simp [*, errW_none, errW_some] <;> rfl), by repeat (first | (with_reducible first | exact HB.out | apply below_alloc | apply pw_below_drewN | apply below_drew1) | exact HB.out)⟩
            · rw [if_neg c5] at H
              have c5b0 : decide (1000 < ((rd_T112 l0 x3_1).f0)) = false := decide_eq_false c5
              clear c5
              replace H := Option.bind_eq_some_iff.mp H
              obtain ⟨t353, A60, H⟩ := H
              replace H : (if t353 < 0 then (some false) else (soriteslaw07_Fine.l0 k1 l0 (wrap64 (x3_1 + 1)))) = some r := H
              have A6 := Aside0.mk A60
              clear A60
              by_cases c7 : t353 < 0
              · rw [if_pos c7] at H
                have c7b0 : decide (t353 < 0) = true := decide_eq_true c7
                clear c7
                obtain rfl := Option.some.inj H
                have p350 : 0 ≤ (x3_1 : Int) := of_decide_eq_true (by first | (with_reducible assumption) | assumption)
                have q350 : x3_1 < (l0.length : Int) := of_decide_eq_true (by first | (with_reducible assumption) | assumption)
                obtain ⟨ad350, A350_2, c350_2, e350, hx350_0, hx350_1, hx350_2, hl350_2, hi350_2⟩ := at_T112 HR0.out x3_1 p350 q350
                cases e350
                replace hx350_0 := (HB.out.cell (World.block_lt_of_cell? w _ hx350_0)).trans hx350_0
                replace hx350_1 := (HB.out.cell (World.block_lt_of_cell? w _ hx350_1)).trans hx350_1
                replace hx350_2 := (HB.out.cell (World.block_lt_of_cell? w _ hx350_2)).trans hx350_2
                have HR350_2 := Aside0.mk hi350_2
                have HC350_2 := Aside0.mk hl350_2
                clear hi350_2 hl350_2
                replace p350 := eq_true p350
                replace q350 := eq_true q350
                have p351 : 0 ≤ (x3_1 : Int) := of_decide_eq_true (by first | (with_reducible assumption) | assumption)
                have q351 : x3_1 < (l0.length : Int) := of_decide_eq_true (by first | (with_reducible assumption) | assumption)
                obtain ⟨ad351, A351_2, c351_2, e351, hx351_0, hx351_1, hx351_2, hl351_2, hi351_2⟩ := at_T112 HR0.out x3_1 p351 q351
                obtain rfl : ad350 = ad351 := (by injection e351)
                replace hx351_0 := (HB.out.cell (World.block_lt_of_cell? w _ hx351_0)).trans hx351_0
                replace hx351_1 := (HB.out.cell (World.block_lt_of_cell? w _ hx351_1)).trans hx351_1
                replace hx351_2 := (HB.out.cell (World.block_lt_of_cell? w _ hx351_2)).trans hx351_2
                have HR351_2 := Aside0.mk hi351_2
                have HC351_2 := Aside0.mk hl351_2
                clear hi351_2 hl351_2
                replace p351 := eq_true p351
                replace q351 := eq_true q351
                have ea_ := Option.some.inj (hx350_2.symm.trans hx351_2)
                injection ea_ with ea_ en_ ec_
                subst ea_
                subst ec_
                clear en_
                have p352 : 0 ≤ (x3_1 : Int) := of_decide_eq_true (by first | (with_reducible assumption) | assumption)
                have q352 : x3_1 < (l0.length : Int) := of_decide_eq_true (by first | (with_reducible assumption) | assumption)
                obtain ⟨ad352, A352_2, c352_2, e352, hx352_0, hx352_1, hx352_2, hl352_2, hi352_2⟩ := at_T112 HR0.out x3_1 p352 q352
                obtain rfl : ad350 = ad352 := (by injection e352)
                replace hx352_0 := (HB.out.cell (World.block_lt_of_cell? w _ hx352_0)).trans hx352_0
                replace hx352_1 := (HB.out.cell (World.block_lt_of_cell? w _ hx352_1)).trans hx352_1
                replace hx352_2 := (HB.out.cell (World.block_lt_of_cell? w _ hx352_2)).trans hx352_2
                have HR352_2 := Aside0.mk hi352_2
                have HC352_2 := Aside0.mk hl352_2
                clear hi352_2 hl352_2
                replace p352 := eq_true p352
                replace q352 := eq_true q352
                have ea_ := Option.some.inj (hx350_2.symm.trans hx352_2)
                injection ea_ with ea_ en_ ec_
                subst ea_
                subst ec_
                clear en_
                go_wp2_with (first | (go_at_call 50; (with_reducible refine (soriteslaw06_Small.calls k1 ((rd_T112 l0 x3_1).f1.f0) _ _ ((rd_T112 l0 x3_1).f1.f1) 20 10 t353 _ ?side1 ?side2 A6.out).mono ?_); (case side1 => repeat (first | exact (Kd.C_below HR352_2.out HB.out) | (with_reducible refine Kd.C_alloc ?_ _) | (with_reducible refine Kd.C_drewN ?_ _) | (with_reducible refine Kd.C_drew ?_))); (case side2 => exact HC352_2.out); rintro e w8 ⟨rfl, hb⟩; have n0_ := Aside0.mk (below_step (by repeat (first | (with_reducible first | exact HB.out | apply below_alloc | apply pw_below_drewN | apply below_drew1) | exact HB.out)) hb); clear HB; have HB := n0_; clear n0_; (try clear hb); (try clear hb2); (try clear hk); (try clear hi)))
                go_ret
                exact ⟨by first | rfl | (simp [errW_none, errW_some] <;> rfl) | (simp [*, errW_none, errW_some] <;> rfl), by repeat (first | (with_reducible first | exact HB.out | apply below_alloc | apply pw_below_drewN | apply below_drew1) | exact HB.out)⟩
              · rw [if_neg c7] at H
                have c7b0 : decide (t353 < 0) = false := decide_eq_false c7
                clear c7
                have H' := Aside0.mk H
                clear H
                have p350 : 0 ≤ (x3_1 : Int) := of_decide_eq_true (by first | (with_reducible assumption) | assumption)
                have q350 : x3_1 < (l0.length : Int) := of_decide_eq_true (by first | (with_reducible assumption) | assumption)
                obtain ⟨ad350, A350_2, c350_2, e350, hx350_0, hx350_1, hx350_2, hl350_2, hi350_2⟩ := at_T112 HR0.out x3_1 p350 q350
                cases e350
                replace hx350_0 := (HB.out.cell (World.block_lt_of_cell? w _ hx350_0)).trans hx350_0
                replace hx350_1 := (HB.out.cell (World.block_lt_of_cell? w _ hx350_1)).trans hx350_1
                replace hx350_2 := (HB.out.cell (World.block_lt_of_cell? w _ hx350_2)).trans hx350_2
                have HR350_2 := Aside0.mk hi350_2
                have HC350_2 := Aside0.mk hl350_2
                clear hi350_2 hl350_2
                replace p350 := eq_true p350
                replace q350 := eq_true q350
                have p351 : 0 ≤ (x3_1 : Int) := of_decide_eq_true (by first | (with_reducible assumption) | assumption)
                have q351 : x3_1 < (l0.length : Int) := of_decide_eq_true (by first | (with_reducible assumption) | assumption)
                obtain ⟨ad351, A351_2, c351_2, e351, hx351_0, hx351_1, hx351_2, hl351_2, hi351_2⟩ := at_T112 HR0.out x3_1 p351 q351
                obtain rfl : ad350 = ad351 := (by injection e351)
                replace hx351_0 := (HB.out.cell (World.block_lt_of_cell? w _ hx351_0)).trans hx351_0
                replace hx351_1 := (HB.out.cell (World.block_lt_of_cell? w _ hx351_1)).trans hx351_1
                replace hx351_2 := (HB.out.cell (World.block_lt_of_cell? w _ hx351_2)).trans hx351_2
                have HR351_2 := Aside0.mk hi351_2
                have HC351_2 := Aside0.mk hl351_2
                clear hi351_2 hl351_2
                replace p351 := eq_true p351
                replace q351 := eq_true q351
                have ea_ := Option.some.inj (hx350_2.symm.trans hx351_2)
                injection ea_ with ea_ en_ ec_
                subst ea_
                subst ec_
                clear en_
                have p352 : 0 ≤ (x3_1 : Int) := of_decide_eq_true (by first | (with_reducible assumption) | assumption)
                have q352 : x3_1 < (l0.length : Int) := of_decide_eq_true (by first | (with_reducible assumption) | assumption)
                obtain ⟨ad352, A352_2, c352_2, e352, hx352_0, hx352_1, hx352_2, hl352_2, hi352_2⟩ := at_T112 HR0.out x3_1 p352 q352
                obtain rfl : ad350 = ad352 := (by injection e352)
                replace hx352_0 := (HB.out.cell (World.block_lt_of_cell? w _ hx352_0)).trans hx352_0
                replace hx352_1 := (HB.out.cell (World.block_lt_of_cell? w _ hx352_1)).trans hx352_1
                replace hx352_2 := (HB.out.cell (World.block_lt_of_cell? w _ hx352_2)).trans hx352_2
                have HR352_2 := Aside0.mk hi352_2
                have HC352_2 := Aside0.mk hl352_2
                clear hi352_2 hl352_2
                replace p352 := eq_true p352
                replace q352 := eq_true q352
                have ea_ := Option.some.inj (hx350_2.symm.trans hx352_2)
                injection ea_ with ea_ en_ ec_
                subst ea_
                subst ec_
                clear en_
                go_wp2_with (first | (go_at_call 50; (with_reducible refine (soriteslaw06_Small.calls k1 ((rd_T112 l0 x3_1).f1.f0) _ _ ((rd_T112 l0 x3_1).f1.f1) 20 10 t353 _ ?side1 ?side2 A6.out).mono ?_); (case side1 => repeat (first | exact (Kd.C_below HR352_2.out HB.out) | (with_reducible refine Kd.C_alloc ?_ _) | (with_reducible refine Kd.C_drewN ?_ _) | (with_reducible refine Kd.C_drew ?_))); (case side2 => exact HC352_2.out); rintro e w9 ⟨rfl, hb⟩; have n0_ := Aside0.mk (below_step (by repeat (first | (with_reducible first | exact HB.out | apply below_alloc | apply pw_below_drewN | apply below_drew1) | exact HB.out)) hb); clear HB; have HB := n0_; clear n0_; (try clear hb); (try clear hb2); (try clear hk); (try clear hi)))
                go_roundg k1
                case measure => have := HK1.out; omega
                case rel => exact ⟨(wrap64 (x3_1 + 1)), (by first | rfl | (simp; done) | (simp [*]; done)), H', ⟨by have := HK1.out; omega⟩, ⟨by repeat (first | (with_reducible first | exact HB.out | apply below_alloc | apply pw_below_drewN | apply below_drew1) | exact HB.out)⟩⟩
        · rw [if_neg c3] at H
          exact absurd H (by simp)
      · rw [if_neg c2] at H
        have c2b0 : decide (x3_1 < (l0.length : Int)) = false := decide_eq_false c2
        clear c2
        obtain rfl := Option.some.inj H
        go_wp2
        go_ret
        exact ⟨by first | rfl | (simp [errW_none, errW_some] <;> rfl) | (simp [*, errW_none, errW_some] <;> rfl), by repeat (first | (with_reducible first | exact HB.out | apply below_alloc | apply pw_below_drewN | apply below_drew1) | exact HB.out)⟩
end Go.Proofs.Ytpfddihcikiofaa.P
end
