/- The law KboTotal holds of every input. Part 4 of 4: PxSoriteslaw10Alive, GSpec10, GKboLaw, GKboTotal, LawKboTotal. -/
import Derived.Test.YtpfddihcikiofaaZKboTotal2
import Derived.Test.YtpfddihcikiofaaZKboTotal3
import Derived.Test.YtpfddihcikiofaaRows
import Derived.WalkKit
import Derived.ProofKit
import Derived.OpenShut
import Derived.ShutString
import Derived.ChangeOld
import Derived.Below
import Derived.SizedLaws
import Derived.Test.YtpfddihcikiofaaZKboTotal1
section
namespace Go.Proofs.Ytpfddihcikiofaa.P
open Go.RowKit Go.Proofs.YtpfddihcikiofaaW.PrintWords Go.Proofs.YtpfddihcikiofaaW.PrintLast Go.Proofs.YtpfddihcikiofaaW.PrintMore
attribute [local go_sem] max2_int min2_int max_two min_two max_three min_three max_four min_four
set_option linter.unusedVariables false
set_option linter.unusedSimpArgs false
def soriteslaw10_alive.f (k : Nat)  : Option (Bool) := (kbo_Greater.f k 4 (([(⟨(-1), ([] : List (S30))⟩ : S30), (⟨1, ([] : List (S30))⟩ : S30)] : List (S30))) 3 (([(⟨(-1), ([] : List (S30))⟩ : S30)] : List (S30)))).bind fun t295 => (if t295 = true then ((kbo_Compare.f k (-1) ([] : List (S30)) 1 ([] : List (S30))).bind fun t296 => (some (t296 == 2))) else (some false))
set_option maxHeartbeats 8000000 in
set_option maxRecDepth 100000 in
theorem soriteslaw10_alive.calls (k : Nat)  (r : Bool) (w : World) (h : soriteslaw10_alive.f k  = some r) :
    Calls Try.prog 40 #[] w fun e w' => e = .returned (.bool r) ∧ Below w.heap.size w w' := by
  have hu30 := Try.underlying30
  have HB := Aside0.mk (Below.refl w.heap.size w)
  have H : ((kbo_Greater.f k 4 (([(⟨(-1), ([] : List (S30))⟩ : S30), (⟨1, ([] : List (S30))⟩ : S30)] : List (S30))) 3 (([(⟨(-1), ([] : List (S30))⟩ : S30)] : List (S30)))).bind fun t295 => (if t295 = true then ((kbo_Compare.f k (-1) ([] : List (S30)) 1 ([] : List (S30))).bind fun t296 => (some (t296 == 2))) else (some false))) = some r := h
  clear h
  obtain ⟨y289, hy289⟩ : ∃ y_ : List (S30), y_ = (([(⟨(-1), ([] : List (S30))⟩ : S30), (⟨1, ([] : List (S30))⟩ : S30)] : List (S30))) := ⟨_, rfl⟩
  replace H : ((kbo_Greater.f k 4 y289 3 (([(⟨(-1), ([] : List (S30))⟩ : S30)] : List (S30)))).bind fun t295 => (if t295 = true then ((kbo_Compare.f k (-1) ([] : List (S30)) 1 ([] : List (S30))).bind fun t296 => (some (t296 == 2))) else (some false))) = some r := by first | (rw [hy289]; with_reducible exact H) | (have H2_ := (Option.bind_some _ _).symm.trans H; rw [hy289]; with_reducible exact H2_) | (have H2_ := (Option.bind_some _ _).symm.trans H; with_reducible exact H2_) | with_reducible exact H | (rw [hy289]; exact H) | exact H
  have Ny289 := Aside0.mk hy289
  clear hy289
  obtain ⟨y292, hy292⟩ : ∃ y_ : List (S30), y_ = (([(⟨(-1), ([] : List (S30))⟩ : S30)] : List (S30))) := ⟨_, rfl⟩
  replace H : ((kbo_Greater.f k 4 y289 3 y292).bind fun t295 => (if t295 = true then ((kbo_Compare.f k (-1) ([] : List (S30)) 1 ([] : List (S30))).bind fun t296 => (some (t296 == 2))) else (some false))) = some r := by first | (rw [hy292]; with_reducible exact H) | (have H2_ := (Option.bind_some _ _).symm.trans H; rw [hy292]; with_reducible exact H2_) | (have H2_ := (Option.bind_some _ _).symm.trans H; with_reducible exact H2_) | with_reducible exact H | (rw [hy292]; exact H) | exact H
  have Ny292 := Aside0.mk hy292
  clear hy292
  replace H := Option.bind_eq_some_iff.mp H
  obtain ⟨t295, A10, H⟩ := H
  replace H : (if t295 = true then ((kbo_Compare.f k (-1) ([] : List (S30)) 1 ([] : List (S30))).bind fun t296 => (some (t296 == 2))) else (some false)) = some r := H
  have A1 := Aside0.mk A10
  clear A10
  by_cases c2 : t295 = true
  · subst c2
    have H1 : ((kbo_Compare.f k (-1) ([] : List (S30)) 1 ([] : List (S30))).bind fun t296 => (some (t296 == 2))) = some r := by rw [if_pos rfl] at H; exact H
    clear H
    have H := H1
    clear H1
    replace H := Option.bind_eq_some_iff.mp H
    obtain ⟨t296, A30, H⟩ := H
    replace H : (some (t296 == 2)) = some r := H
    have A3 := Aside0.mk A30
    clear A30
    obtain rfl := Option.some.inj H
    go_enter Try.func40, Try.ntmps40
    go_wp2_with (first | ((with_reducible refine gate_dst (N := 3) rfl ?_); refine Kd.R_lit k30 _ 30 ?hg (N := 3) ?hd (xs := ([(⟨(-1), ([] : List (S30))⟩ : S30), (⟨1, ([] : List (S30))⟩ : S30)] : List (S30))) (inner := [.int .i64 (-1), .slice none 0 0, .int .i64 1, .slice none 0 0]) (ok := fun _ => True) (okp := fun _ => True) ?hr ?hp (fun _ hk => hk) trivial (Below.refl _ _) (Nat.le_refl _) (by simp) ?_; (case hd => rfl); (case hg => rfl); (case hr => first | (go_simp; done) | (go_simp; rfl)); (case hp => exact (Reps.c2 (show Kd.M k30 _ _ _ (⟨(-1), ([] : List (S30))⟩ : S30) [.int .i64 (-1), .slice none 0 0] from (k30_mkM _ _ _ (⟨(-1), ([] : List (S30))⟩ : S30) (Kd.R_nil _ _ _ _ _))) (Reps.c2 (show Kd.M k30 _ _ _ (⟨1, ([] : List (S30))⟩ : S30) [.int .i64 1, .slice none 0 0] from (k30_mkM _ _ _ (⟨1, ([] : List (S30))⟩ : S30) (Kd.R_nil _ _ _ _ _))) (Reps.none _ _)))); intro v290 w4 ho5 hb hg_ hnew_; clear hg_ hnew_; (first | rw [← Ny289.out] at ho5 | (simp only [Int.reduceToNat] at ho5; rw [← Ny289.out] at ho5)); have n0_ := Aside0.mk (Kd.R_lower ho5 (below_size (by repeat (first | (with_reducible first | exact HB.out | apply below_alloc | apply pw_below_drewN | apply below_drew1) | exact HB.out)))); have n1_ := Aside0.mk (below_step (by repeat (first | (with_reducible first | exact HB.out | apply below_alloc | apply pw_below_drewN | apply below_drew1) | exact HB.out)) hb); clear HB; have HO291 := n0_; have HB := n1_; clear n0_ n1_; clear hb ho5; obtain ⟨Ao6, co6, eo6⟩ := Kd.R_slice HO291.out; subst eo6) | ((with_reducible refine gate_dst (N := 6) rfl ?_); refine Kd.R_lit k30 _ 30 ?hg (N := 6) ?hd (xs := ([(⟨(-1), ([] : List (S30))⟩ : S30)] : List (S30))) (inner := [.int .i64 (-1), .slice none 0 0]) (ok := fun _ => True) (okp := fun _ => True) ?hr ?hp (fun _ hk => hk) trivial (Below.refl _ _) (Nat.le_refl _) (by simp) ?_; (case hd => rfl); (case hg => rfl); (case hr => first | (go_simp; done) | (go_simp; rfl)); (case hp => exact (Reps.c2 (show Kd.M k30 _ _ _ (⟨(-1), ([] : List (S30))⟩ : S30) [.int .i64 (-1), .slice none 0 0] from (k30_mkM _ _ _ (⟨(-1), ([] : List (S30))⟩ : S30) (Kd.R_nil _ _ _ _ _))) (Reps.none _ _))); intro v293 w7 ho8 hb hg_ hnew_; clear hg_ hnew_; (first | rw [← Ny292.out] at ho8 | (simp only [Int.reduceToNat] at ho8; rw [← Ny292.out] at ho8)); have n0_ := Aside0.mk (Kd.R_elder' (by (with_reducible repeat (first | apply Kd.R_alloc | apply Kd.R_drewN | apply Kd.R_drew)); exact HO291.out) (Kd.R_base ho8) hb); have n1_ := Aside0.mk (Kd.R_lower (Kd.R_new' ho8 (Kd.R_lt (by (with_reducible repeat (first | apply Kd.R_alloc | apply Kd.R_drewN | apply Kd.R_drew)); exact HO291.out))) (below_size (by repeat (first | (with_reducible first | exact HB.out | apply below_alloc | apply pw_below_drewN | apply below_drew1) | exact HB.out)))); have n2_ := Aside0.mk (below_step (by repeat (first | (with_reducible first | exact HB.out | apply below_alloc | apply pw_below_drewN | apply below_drew1) | exact HB.out)) hb); clear HO291; clear HB; have HO291 := n0_; have HO294 := n1_; have HB := n2_; clear n0_ n1_ n2_; clear hb ho8; obtain ⟨Ao9, co9, eo9⟩ := Kd.R_slice HO294.out; subst eo9) | ((with_reducible refine gate_callee (f := 41) rfl ?_); refine goesL_ (some 8) rfl rfl Try.func41 (by kernel_rfl) rfl #[.agg #[.int .i64 4, .slice Ao6 y289.length co6], .agg #[.int .i64 3, .slice Ao9 y292.length co9]] rfl (by (try simp only [List.map_toArray, List.map_cons, List.map_nil]); first | done | rfl | (simp only [List.length_drop, List.length_take]; rfl)) ?_; (with_reducible refine (kbo_Greater.calls k 4 _ _ y289 3 _ _ y292 true _ ?side1 ?side2 ?side3 ?side4 A1.out).mono ?_); (case side1 => repeat (first | exact (Kd.R_reads' HO291.out).2.2 | (with_reducible refine Kd.C_alloc ?_ _) | (with_reducible refine Kd.C_drewN ?_ _) | (with_reducible refine Kd.C_drew ?_))); (case side2 => exact (Kd.R_reads' HO291.out).2.1); (case side3 => repeat (first | exact (Kd.R_reads' HO294.out).2.2 | (with_reducible refine Kd.C_alloc ?_ _) | (with_reducible refine Kd.C_drewN ?_ _) | (with_reducible refine Kd.C_drew ?_))); (case side4 => exact (Kd.R_reads' HO294.out).2.1); rintro e w10 ⟨rfl, hb⟩; refine ⟨_, rfl, ?_⟩; have n0_ := Aside0.mk (Kd.R_below (by (with_reducible repeat (first | apply Kd.R_alloc | apply Kd.R_drewN | apply Kd.R_drew)); exact HO291.out) hb); have n1_ := Aside0.mk (Kd.R_below (by (with_reducible repeat (first | apply Kd.R_alloc | apply Kd.R_drewN | apply Kd.R_drew)); exact HO294.out) hb); have n2_ := Aside0.mk (below_step (by repeat (first | (with_reducible first | exact HB.out | apply below_alloc | apply pw_below_drewN | apply below_drew1) | exact HB.out)) hb); clear HO291; clear HO294; clear HB; have HO291 := n0_; have HO294 := n1_; have HB := n2_; clear n0_ n1_ n2_; (try clear hb); (try clear hb2); (try clear hk); (try clear hi)) | (go_at_call 43; (refine (kbo_Compare.calls k (-1) _ _ ([] : List (S30)) 1 _ _ ([] : List (S30)) t296 _ ?side1 ?side2 ?side3 ?side4 A3.out).mono ?_); (case side1 => exact Kd.C_nil _ _); (case side2 => exact Nat.le_refl _); (case side3 => exact Kd.C_nil _ _); (case side4 => exact Nat.le_refl _); rintro e w11 ⟨rfl, hb⟩; have n0_ := Aside0.mk (Kd.R_below (by (with_reducible repeat (first | apply Kd.R_alloc | apply Kd.R_drewN | apply Kd.R_drew)); exact HO291.out) hb); have n1_ := Aside0.mk (Kd.R_below (by (with_reducible repeat (first | apply Kd.R_alloc | apply Kd.R_drewN | apply Kd.R_drew)); exact HO294.out) hb); have n2_ := Aside0.mk (below_step (by repeat (first | (with_reducible first | exact HB.out | apply below_alloc | apply pw_below_drewN | apply below_drew1) | exact HB.out)) hb); clear HO291; clear HO294; clear HB; have HO291 := n0_; have HO294 := n1_; have HB := n2_; clear n0_ n1_ n2_; (try clear hb); (try clear hb2); (try clear hk); (try clear hi)))
    go_ret
    exact ⟨by first | rfl | (simp [errW_none, errW_some] <;> rfl) | (simp [*, errW_none, errW_some] <;> rfl), by repeat (first | (with_reducible first | exact HB.out | apply below_alloc | apply pw_below_drewN | apply below_drew1) | exact HB.out)⟩
  · replace c2 := Bool.eq_false_iff.mpr c2
    subst c2
    have H1 : (some false) = some r := by rw [if_neg (show ¬ (false = true) by decide)] at H; exact H
    clear H
    have H := H1
    clear H1
    obtain rfl := Option.some.inj H
    go_enter Try.func40, Try.ntmps40
    go_wp2_with (first | ((with_reducible refine gate_dst (N := 3) rfl ?_); refine Kd.R_lit k30 _ 30 ?hg (N := 3) ?hd (xs := ([(⟨(-1), ([] : List (S30))⟩ : S30), (⟨1, ([] : List (S30))⟩ : S30)] : List (S30))) (inner := [.int .i64 (-1), .slice none 0 0, .int .i64 1, .slice none 0 0]) (ok := fun _ => True) (okp := fun _ => True) ?hr ?hp (fun _ hk => hk) trivial (Below.refl _ _) (Nat.le_refl _) (by simp) ?_; (case hd => rfl); (case hg => rfl); (case hr => first | (go_simp; done) | (go_simp; rfl)); (case hp => exact (Reps.c2 (show Kd.M k30 _ _ _ (⟨(-1), ([] : List (S30))⟩ : S30) [.int .i64 (-1), .slice none 0 0] from (k30_mkM _ _ _ (⟨(-1), ([] : List (S30))⟩ : S30) (Kd.R_nil _ _ _ _ _))) (Reps.c2 (show Kd.M k30 _ _ _ (⟨1, ([] : List (S30))⟩ : S30) [.int .i64 1, .slice none 0 0] from (k30_mkM _ _ _ (⟨1, ([] : List (S30))⟩ : S30) (Kd.R_nil _ _ _ _ _))) (Reps.none _ _)))); intro v290 w12 ho13 hb hg_ hnew_; clear hg_ hnew_; (first | rw [← Ny289.out] at ho13 | (simp only [Int.reduceToNat] at ho13; rw [← Ny289.out] at ho13)); have n0_ := Aside0.mk (Kd.R_lower ho13 (below_size (by repeat (first | (with_reducible first | exact HB.out | apply below_alloc | apply pw_below_drewN | apply below_drew1) | exact HB.out)))); have n1_ := Aside0.mk (below_step (by repeat (first | (with_reducible first | exact HB.out | apply below_alloc | apply pw_below_drewN | apply below_drew1) | exact HB.out)) hb); clear HB; have HO291 := n0_; have HB := n1_; clear n0_ n1_; clear hb ho13; obtain ⟨Ao14, co14, eo14⟩ := Kd.R_slice HO291.out; subst eo14) | ((with_reducible refine gate_dst (N := 6) rfl ?_); refine Kd.R_lit k30 _ 30 ?hg (N := 6) ?hd (xs := ([(⟨(-1), ([] : List (S30))⟩ : S30)] : List (S30))) (inner := [.int .i64 (-1), .slice none 0 0]) (ok := fun _ => True) (okp := fun _ => True) ?hr ?hp (fun _ hk => hk) trivial (Below.refl _ _) (Nat.le_refl _) (by simp) ?_; (case hd => rfl); (case hg => rfl); (case hr => first | (go_simp; done) | (go_simp; rfl)); (case hp => exact (Reps.c2 (show Kd.M k30 _ _ _ (⟨(-1), ([] : List (S30))⟩ : S30) [.int .i64 (-1), .slice none 0 0] from (k30_mkM _ _ _ (⟨(-1), ([] : List (S30))⟩ : S30) (Kd.R_nil _ _ _ _ _))) (Reps.none _ _))); intro v293 w15 ho16 hb hg_ hnew_; clear hg_ hnew_; (first | rw [← Ny292.out] at ho16 | (simp only [Int.reduceToNat] at ho16; rw [← Ny292.out] at ho16)); have n0_ := Aside0.mk (Kd.R_elder' (by (with_reducible repeat (first | apply Kd.R_alloc | apply Kd.R_drewN | apply Kd.R_drew)); exact HO291.out) (Kd.R_base ho16) hb); have n1_ := Aside0.mk (Kd.R_lower (Kd.R_new' ho16 (Kd.R_lt (by (with_reducible repeat (first | apply Kd.R_alloc | apply Kd.R_drewN | apply Kd.R_drew)); exact HO291.out))) (below_size (by repeat (first | (with_reducible first | exact HB.out | apply below_alloc | apply pw_below_drewN | apply below_drew1) | exact HB.out)))); have n2_ := Aside0.mk (below_step (by repeat (first | (with_reducible first | exact HB.out | apply below_alloc | apply pw_below_drewN | apply below_drew1) | exact HB.out)) hb); clear HO291; clear HB; have HO291 := n0_; have HO294 := n1_; have HB := n2_; clear n0_ n1_ n2_; clear hb ho16; obtain ⟨Ao17, co17, eo17⟩ := Kd.R_slice HO294.out; subst eo17) | ((with_reducible refine gate_callee (f := 41) rfl ?_); refine goesL_ (some 8) rfl rfl Try.func41 (by kernel_rfl) rfl #[.agg #[.int .i64 4, .slice Ao14 y289.length co14], .agg #[.int .i64 3, .slice Ao17 y292.length co17]] rfl (by (try simp only [List.map_toArray, List.map_cons, List.map_nil]); first | done | rfl | (simp only [List.length_drop, List.length_take]; rfl)) ?_; (with_reducible refine (kbo_Greater.calls k 4 _ _ y289 3 _ _ y292 false _ ?side1 ?side2 ?side3 ?side4 A1.out).mono ?_); (case side1 => repeat (first | exact (Kd.R_reads' HO291.out).2.2 | (with_reducible refine Kd.C_alloc ?_ _) | (with_reducible refine Kd.C_drewN ?_ _) | (with_reducible refine Kd.C_drew ?_))); (case side2 => exact (Kd.R_reads' HO291.out).2.1); (case side3 => repeat (first | exact (Kd.R_reads' HO294.out).2.2 | (with_reducible refine Kd.C_alloc ?_ _) | (with_reducible refine Kd.C_drewN ?_ _) | (with_reducible refine Kd.C_drew ?_))); (case side4 => exact (Kd.R_reads' HO294.out).2.1); rintro e w18 ⟨rfl, hb⟩; refine ⟨_, rfl, ?_⟩; have n0_ := Aside0.mk (Kd.R_below (by (with_reducible repeat (first | apply Kd.R_alloc | apply Kd.R_drewN | apply Kd.R_drew)); exact HO291.out) hb); have n1_ := Aside0.mk (Kd.R_below (by (with_reducible repeat (first | apply Kd.R_alloc | apply Kd.R_drewN | apply Kd.R_drew)); exact HO294.out) hb); have n2_ := Aside0.mk (below_step (by repeat (first | (with_reducible first | exact HB.out | apply below_alloc | apply pw_below_drewN | apply below_drew1) | exact HB.out)) hb); clear HO291; clear HO294; clear HB; have HO291 := n0_; have HO294 := n1_; have HB := n2_; clear n0_ n1_ n2_; (try clear hb); (try clear hb2); (try clear hk); (try clear hi)))
    go_ret
    exact ⟨by first | rfl | (simp [errW_none, errW_some] <;> rfl) | (simp [*, errW_none, errW_some] <;> rfl), by repeat (first | (with_reducible first | exact HB.out | apply below_alloc | apply pw_below_drewN | apply below_drew1) | exact HB.out)⟩
end Go.Proofs.Ytpfddihcikiofaa.P
end

section
namespace Go.Proofs.Ytpfddihcikiofaa.P
open Go.RowKit Go.Proofs.YtpfddihcikiofaaW.PrintWords Go.Proofs.YtpfddihcikiofaaW.PrintLast Go.Proofs.YtpfddihcikiofaaW.PrintMore
set_option linter.unusedVariables false
set_option linter.unusedSimpArgs false
theorem mem_varsN {l : List S30} {v : Int} : v ∈ varsN l ↔ ∃ x ∈ l, x.f0 < 0 ∧ v = wrap64 (-1 - x.f0) := by
  unfold varsN
  rw [mem_foldl]
  simp
mutual
def gtT : S30 → S30 → Bool
  | ⟨f, l⟩, ⟨g, m⟩ => covT ⟨f, l⟩ ⟨g, m⟩ && (if (nodes ⟨f, l⟩).length = (nodes ⟨g, m⟩).length then (if f < 0 ∨ g < 0 then false else if f = g then (if l.length = m.length then gtTs l m else decide (m.length < l.length)) else decide (g < f)) else decide ((nodes ⟨g, m⟩).length < (nodes ⟨f, l⟩).length))
def gtTs : List S30 → List S30 → Bool
  | [], _ => false
  | _ :: _, [] => false
  | x :: l, y :: m => if cmpT x y = 0 then gtTs l m else gtT x y
end
theorem gtTs_drop (l m : List S30) (k : Nat) (hl : k < l.length) (hm : k < m.length) : gtTs (l.drop k) (m.drop k) = if cmpT l[k] m[k] = 0 then gtTs (l.drop (k + 1)) (m.drop (k + 1)) else gtT l[k] m[k] := by
  rw [List.drop_eq_getElem_cons hl, List.drop_eq_getElem_cons hm, gtTs]
def kcmp (a b : S30) : Int := if cmpT a b = 0 then 0 else if gtT a b = true then 1 else if gtT b a = true then -1 else 2
theorem orI2_f (a b : Int) : Ev (fun k => cmp_Or_int.f k [a, b]) (if a = 0 then b else a) := by
  refine ⟨3, fun k hk => ?_⟩
  obtain ⟨n, rfl⟩ : ∃ n, k = n + 3 := ⟨k - 3, by omega⟩
  simp only [cmp_Or_int.f, cmp_Or_int.l0, rd, List.length_cons, List.length_nil, wrap64]
  by_cases ha : a = 0
  · by_cases hb : b = 0
    · simp [ha, hb]
    · simp [ha, hb]
  · simp [ha]
theorem Size_fit {t : S30} (h : fit t) : term_Size.f t.f0 t.f1 = some ((nodes t).length : Int) := Size_is (by have := h.1; omega)
theorem fitB_of {t : S30} (h : fit t) : fitB t = true := (fitB_iff t).2 h
theorem Cov_of {a b : S30} (ha : fit a) (hb : fit b) : kbo_Covers.f a.f0 a.f1 b.f0 b.f1 = some (covT a b) := by
  unfold kbo_Covers.f
  rw [S30.eta, S30.eta, fitB_of ha, fitB_of hb]
  rfl
theorem KGreater_spec : ∀ a b : S30, fit a → fit b → Ev (fun k => kbo_Greater.f k a.f0 a.f1 b.f0 b.f1) (gtT a b) := by
  refine S30.ind ?_
  intro f l ih b ha hb
  obtain ⟨g, m⟩ := b
  have hsa := Size_fit ha
  have hsb := Size_fit hb
  have hcv := Cov_of ha hb
  simp only [] at hsa hsb hcv
  rw [gtT]
  by_cases hc : covT ⟨f, l⟩ ⟨g, m⟩ = true
  · rw [hc, Bool.true_and]
    rw [hc] at hcv
    by_cases hn : (nodes ⟨f, l⟩).length = (nodes ⟨g, m⟩).length
    · rw [if_pos hn]
      have hstep : ∀ k, kbo_Greater.f (k + 1) f l g m = kbo_Greater.j0 k (decide (f < 0 ∨ g < 0)) f l g m := fun k => by
        rw [kbo_Greater.f, hcv]
        simp only [Option.bind_some, if_true, hsa, hsb, cmpI_f]
        rw [hn, cmpI_self, if_pos rfl]
        by_cases hf : f < 0
        · rw [if_pos hf, decide_eq_true (.inl hf)]
        · rw [if_neg hf]
          by_cases hg : g < 0
          · rw [decide_eq_true hg, decide_eq_true (.inr hg)]
          · rw [decide_eq_false hg, decide_eq_false (by omega)]
      refine Ev.step (f := fun k => kbo_Greater.j0 k (decide (f < 0 ∨ g < 0)) f l g m) hstep ?_
      by_cases hv : f < 0 ∨ g < 0
      · rw [if_pos hv, decide_eq_true hv]
        exact Ev.step (f := fun _ => some false) (fun k => by rw [kbo_Greater.j0, if_pos rfl]) (Ev.now _)
      · rw [if_neg hv, decide_eq_false hv]
        refine Ev.step (f := fun k => (cmp_Or_int.f k [cmpI f g, cmpI l.length m.length]).bind fun t => if t = 0 then kbo_Greater.l0 k l (l.length : Int) 0 g m else some (decide (t > 0))) (fun k => by rw [kbo_Greater.j0, if_neg (by decide)]; simp only [cmpI_f, Option.bind_some]) (Ev.bind (orI2_f _ _) ?_)
        by_cases hfg : f = g
        · subst hfg
          rw [if_pos rfl, cmpI_self, if_pos rfl]
          have hf : ¬ f < 0 := fun h => hv (.inl h)
          obtain ⟨hll, hsub⟩ := fit_sub hf ha
          obtain ⟨hml, hsubm⟩ := fit_sub hf hb
          by_cases hlm : l.length = m.length
          · rw [if_pos hlm, hlm, cmpI_self]
            simp only [if_true]
            have key : ∀ n i, l.length - i = n → i ≤ l.length → Ev (fun k => kbo_Greater.l0 k l (m.length : Int) (i : Int) f m) (gtTs (l.drop i) (m.drop i)) := by
              intro n
              induction n with
              | zero =>
                intro i hi hle
                refine Ev.step (f := fun _ => some false) (fun k => by rw [kbo_Greater.l0, if_neg (by omega)]) ?_
                rw [List.drop_of_length_le (by omega), gtTs]; exact Ev.now _
              | succ n ihn =>
                intro i hi hle
                have hlt : i < l.length := by omega
                have hltm : i < m.length := by omega
                have hmem := List.getElem_mem hlt
                refine Ev.step (f := fun k => if (cmpT l[i] m[i] == 0) = true then kbo_Greater.l0 k l (m.length : Int) ((i + 1 : Nat) : Int) f m else (kbo_Greater.f k l[i].f0 l[i].f1 m[i].f0 m[i].f1).bind fun t => some t) (fun k => ?_) ?_
                · rw [kbo_Greater.l0, if_pos (by omega), if_pos (by omega), if_pos (by omega), if_pos (by omega), rdC_at l i hlt, rdC_at m i hltm, wsucc i l.length hlt (by omega), Same_of]
                  rfl
                · rw [gtTs_drop l m i hlt hltm]
                  by_cases h0 : cmpT l[i] m[i] = 0
                  · simp only [h0, beq_self_eq_true, if_true]
                    exact ihn (i + 1) (by omega) (by omega)
                  · rw [if_neg h0]
                    have : (cmpT l[i] m[i] == 0) = false := by simpa using h0
                    simp only [this, Bool.false_eq_true, if_false]
                    exact Ev.bind (ih l[i] hmem m[i] (hsub _ hmem) (hsubm _ (List.getElem_mem hltm))) (Ev.now _)
            have := key l.length 0 rfl (by omega)
            simpa using this
          · rw [if_neg hlm]
            have h1 : cmpI (l.length : Int) m.length ≠ 0 := cmpI_ne (by omega)
            simp only [if_neg h1]
            have : decide (cmpI (l.length : Int) m.length > 0) = decide (m.length < l.length) := by
              rw [decide_eq_decide]
              unfold cmpI
              (repeat' split) <;> omega
            rw [this]; exact Ev.now _
        · rw [if_neg hfg]
          have h1 := cmpI_ne hfg
          simp only [if_neg h1]
          have : decide (cmpI f g > 0) = decide (g < f) := by
            rw [decide_eq_decide]
            unfold cmpI
            (repeat' split) <;> omega
          rw [this]; exact Ev.now _
    · rw [if_neg hn]
      refine Ev.step (f := fun _ => some (decide ((nodes ⟨g, m⟩).length < (nodes ⟨f, l⟩).length))) (fun k => ?_) (Ev.now _)
      rw [kbo_Greater.f, hcv]
      simp only [Option.bind_some, if_true, hsa, hsb, cmpI_f]
      have h1 : cmpI ((nodes ⟨f, l⟩).length : Int) (nodes ⟨g, m⟩).length ≠ 0 := cmpI_ne (by omega)
      rw [if_neg h1]
      congr 1
      rw [decide_eq_decide]
      unfold cmpI
      (repeat' split) <;> omega
  · have hcf : covT ⟨f, l⟩ ⟨g, m⟩ = false := by simpa using hc
    rw [hcf, Bool.false_and]
    rw [hcf] at hcv
    refine Ev.step (f := fun _ => some false) (fun k => ?_) (Ev.now _)
    rw [kbo_Greater.f, hcv]
    rfl
theorem KCompare_spec (a b : S30) (ha : fit a) (hb : fit b) : Ev (fun k => kbo_Compare.f k a.f0 a.f1 b.f0 b.f1) (kcmp a b) := by
  unfold kbo_Compare.f kcmp
  simp only [Same_of, Option.bind_some]
  by_cases h0 : cmpT a b = 0
  · simp only [h0, beq_self_eq_true, if_true]; exact Ev.now _
  · have : (cmpT a b == 0) = false := by simpa using h0
    simp only [this, Bool.false_eq_true, if_false, if_neg h0]
    refine Ev.bind (KGreater_spec a b ha hb) ?_
    by_cases h1 : gtT a b = true
    · simp only [h1, if_true]; exact Ev.now _
    · simp only [if_neg h1]
      refine Ev.bind (KGreater_spec b a hb ha) ?_
      by_cases h2 : gtT b a = true
      · simp only [h2, if_true]; exact Ev.now _
      · simp only [if_neg h2]; exact Ev.now _
theorem fit_of_ok : ∀ t : S30, ok t → (nodes t).length ≤ 1000000 → fit t := by
  have key : ∀ t : S30, ok t → SmallN t := by
    refine S30.ind ?_
    intro f l ih h
    obtain ⟨h1, h2, h3, h4⟩ := h
    have hl : ∀ y ∈ nodess l, -1000000 ≤ y.f0 ∧ y.f0 ≤ 1000000 := by
      have := oks_mem h4
      clear h1 h2 h3 h4
      induction l with
      | nil => intro y hy; cases hy
      | cons x l ihl =>
        intro y hy
        rw [nodess, List.mem_append] at hy
        rcases hy with hy | hy
        · exact ih x (by simp) (this x (by simp)) y hy
        · exact ihl (fun x hx => ih x (by simp [hx])) (fun x hx => this x (by simp [hx])) y hy
    intro y hy
    rw [nodes] at hy
    rcases List.mem_cons.1 hy with rfl | hy
    · exact ⟨by show -1000000 ≤ f; omega, by show f ≤ 1000000; omega⟩
    · split at hy
      · cases hy
      · exact hl y hy
  intro t h hn
  exact ⟨hn, key t h⟩
theorem alive10 : Ev (fun k => soriteslaw10_alive.f k) true := by
  have f1 : fit ⟨4, [⟨-1, []⟩, ⟨1, []⟩]⟩ := fitB_iff _ |>.1 (by decide)
  have f2 : fit ⟨3, [⟨-1, []⟩]⟩ := fitB_iff _ |>.1 (by decide)
  have f3 : fit ⟨-1, []⟩ := fitB_iff _ |>.1 (by decide)
  have f4 : fit ⟨1, []⟩ := fitB_iff _ |>.1 (by decide)
  unfold soriteslaw10_alive.f
  refine Ev.bind (KGreater_spec ⟨4, [⟨-1, []⟩, ⟨1, []⟩]⟩ ⟨3, [⟨-1, []⟩]⟩ f1 f2) ?_
  rw [show gtT ⟨4, [⟨-1, []⟩, ⟨1, []⟩]⟩ ⟨3, [⟨-1, []⟩]⟩ = true by decide]
  simp only [if_true]
  refine Ev.bind (KCompare_spec ⟨-1, []⟩ ⟨1, []⟩ f3 f4) ?_
  rw [show kcmp ⟨-1, []⟩ ⟨1, []⟩ = 2 by decide]
  exact Ev.now _
end Go.Proofs.Ytpfddihcikiofaa.P
end

section
namespace Go.Proofs.Ytpfddihcikiofaa.P
open Go.RowKit Go.Proofs.YtpfddihcikiofaaW.PrintWords Go.Proofs.YtpfddihcikiofaaW.PrintLast Go.Proofs.YtpfddihcikiofaaW.PrintMore
set_option linter.unusedVariables false
set_option linter.unusedSimpArgs false
def ground (t : S30) : Prop := ∀ x ∈ nodes t, 0 ≤ x.f0
theorem ground_sub {f : Int} {l : List S30} (hf : ¬ f < 0) (h : ground ⟨f, l⟩) : ∀ x ∈ l, ground x := fun x hx y hy => h y (by
  have hn : nodes ⟨f, l⟩ = ⟨f, l⟩ :: nodess l := by simp [nodes, hf]
  rw [hn]; exact List.mem_cons_of_mem _ (nodess_mem hx hy))
theorem ground_top {f : Int} {l : List S30} (h : ground ⟨f, l⟩) : ¬ f < 0 := by
  have := h ⟨f, l⟩ (by simp [nodes])
  have h2 : 0 ≤ f := this
  omega
theorem cov_ground {a b : S30} (h : ground b) : covT a b = true := by
  unfold covT
  rw [List.all_eq_true]
  intro x hx
  rw [Bool.or_eq_true, decide_eq_true_eq]
  exact .inl (h x hx)
theorem gt_total : ∀ a b : S30, ground a → ground b → cmpT a b ≠ 0 → (gtT a b = true ∨ gtT b a = true) := by
  refine S30.ind ?_
  intro f l ih b ha hb hne
  obtain ⟨g, m⟩ := b
  have hf := ground_top ha
  have hg := ground_top hb
  rw [gtT, gtT, cov_ground hb, cov_ground ha, Bool.true_and, Bool.true_and]
  by_cases hn : (nodes ⟨f, l⟩).length = (nodes ⟨g, m⟩).length
  · rw [if_pos hn, if_pos hn.symm, if_neg (show ¬ (f < 0 ∨ g < 0) by omega), if_neg (show ¬ (g < 0 ∨ f < 0) by omega)]
    by_cases hfg : f = g
    · subst hfg
      rw [if_pos rfl, if_pos rfl]
      by_cases hlm : l.length = m.length
      · rw [if_pos hlm, if_pos hlm.symm]
        have hcs : cmpTs l m ≠ 0 := fun h0 => hne (by simp [cmpT, hf, cmpI_self, hlm, orI, h0])
        have key : ∀ l m : List S30, (∀ x ∈ l, ∀ b : S30, ground x → ground b → cmpT x b ≠ 0 → (gtT x b = true ∨ gtT b x = true)) → (∀ x ∈ l, ground x) → (∀ x ∈ m, ground x) → l.length = m.length → cmpTs l m ≠ 0 → (gtTs l m = true ∨ gtTs m l = true) := by
          intro l
          induction l with
          | nil => intro m _ _ _ hl h0; cases m with
            | nil => rw [cmpTs] at h0; exact absurd rfl h0
            | cons => simp at hl
          | cons x l ihl =>
            intro m h hgl hgm hl h0
            cases m with
            | nil => simp at hl
            | cons y m =>
              rw [gtTs, gtTs]
              rw [cmpTs] at h0
              have hanti := cmp_anti x y
              by_cases hxy : cmpT x y = 0
              · rw [if_pos hxy] at h0 ⊢
                rw [if_pos (by omega)]
                exact ihl m (fun x hx => h x (by simp [hx])) (fun x hx => hgl x (by simp [hx])) (fun x hx => hgm x (by simp [hx])) (by simpa using hl) h0
              · rw [if_neg hxy, if_neg (by omega)]
                exact h x (by simp) y (hgl x (by simp)) (hgm y (by simp)) hxy
        exact key l m (fun x hx => ih x hx) (ground_sub hf ha) (ground_sub hf hb) hlm hcs
      · rw [if_neg hlm, if_neg (fun e => hlm e.symm), decide_eq_true_eq, decide_eq_true_eq]
        omega
    · rw [if_neg hfg, if_neg (fun e => hfg e.symm), decide_eq_true_eq, decide_eq_true_eq]
      omega
  · rw [if_neg hn, if_neg (fun e => hn e.symm), decide_eq_true_eq, decide_eq_true_eq]
    omega
theorem gtTs_asymm : ∀ l m : List S30, (∀ x ∈ l, ∀ y, gtT x y = true → gtT y x = false) → gtTs l m = true → gtTs m l = false
  | [], m, _, h => by rw [gtTs] at h; cases h
  | _ :: _, [], _, h => by rw [gtTs] at h; cases h
  | x :: l, y :: m, hx, h => by
    rw [gtTs] at h ⊢
    have hanti := cmp_anti x y
    by_cases h0 : cmpT x y = 0
    · rw [if_pos h0] at h
      rw [if_pos (by omega)]
      exact gtTs_asymm l m (fun x hx' => hx x (by simp [hx'])) h
    · rw [if_neg h0] at h
      rw [if_neg (by omega)]
      exact hx x (by simp) y h
theorem gt_asymm : ∀ a b : S30, gtT a b = true → gtT b a = false := by
  refine S30.ind ?_
  intro f l ih b h
  obtain ⟨g, m⟩ := b
  rw [gtT, Bool.and_eq_true] at h
  rw [gtT]
  have h2 := h.2
  by_cases hn : (nodes ⟨f, l⟩).length = (nodes ⟨g, m⟩).length
  · rw [if_pos hn] at h2
    rw [if_pos hn.symm]
    by_cases hv : f < 0 ∨ g < 0
    · rw [if_pos hv] at h2; cases h2
    · rw [if_neg hv] at h2
      rw [if_neg (by omega)]
      by_cases hfg : f = g
      · subst hfg
        rw [if_pos rfl] at h2 ⊢
        by_cases hlm : l.length = m.length
        · rw [if_pos hlm] at h2
          rw [if_pos hlm.symm, gtTs_asymm l m ih h2, Bool.and_false]
        · rw [if_neg hlm, decide_eq_true_eq] at h2
          rw [if_neg (fun e => hlm e.symm), decide_eq_false (by omega), Bool.and_false]
      · rw [if_neg hfg, decide_eq_true_eq] at h2
        rw [if_neg (fun e => hfg e.symm), decide_eq_false (by omega), Bool.and_false]
  · rw [if_neg hn, decide_eq_true_eq] at h2
    rw [if_neg (fun e => hn e.symm), decide_eq_false (by omega), Bool.and_false]
theorem kcmp_range (a b : S30) : kcmp a b = 0 ∨ kcmp a b = 1 ∨ kcmp a b = -1 ∨ kcmp a b = 2 := by
  unfold kcmp
  (repeat' split) <;> simp
theorem kcmp_zero (a b : S30) : (kcmp a b == 0) = (cmpT a b == 0) := by
  unfold kcmp
  by_cases h0 : cmpT a b = 0
  · simp [h0]
  · rw [if_neg h0]
    have : (cmpT a b == 0) = false := by simpa using h0
    rw [this]
    (repeat' split) <;> rfl
theorem kcmp_total {a b : S30} (ha : ground a) (hb : ground b) : kcmp a b = - kcmp b a ∧ kcmp a b ≠ 2 := by
  have hanti := cmp_anti a b
  unfold kcmp
  by_cases h0 : cmpT a b = 0
  · have h0' : cmpT b a = 0 := by omega
    rw [if_pos h0, if_pos h0']; decide
  · have h0' : cmpT b a ≠ 0 := by omega
    rw [if_neg h0, if_neg h0']
    rcases gt_total a b ha hb h0 with h | h
    · have h2 := gt_asymm a b h
      rw [h, h2]; decide
    · have h2 := gt_asymm b a h
      rw [h2, h]; decide
theorem ground_of_top {t : S30} (h : fit t) (ht : top (varsN (nodes t)) < 0) : ground t := by
  intro x hx
  rcases Int.lt_or_le x.f0 0 with hneg | hge
  · exfalso
    have hm : wrap64 (-1 - x.f0) ∈ varsN (nodes t) := mem_varsN.2 ⟨x, hx, hneg, rfl⟩
    have h1 := (top_spec (varsN (nodes t)) (-1)).2.1 _ hm
    have h2 := h.2 x hx
    rw [w64 _ (by omega)] at h1
    have h3 : top (varsN (nodes t)) = (varsN (nodes t)).foldl mx (-1) := rfl
    omega
  · exact hge
end Go.Proofs.Ytpfddihcikiofaa.P
end

section
namespace Go.Proofs.Ytpfddihcikiofaa.P
open Go.RowKit Go.Proofs.YtpfddihcikiofaaW.PrintWords Go.Proofs.YtpfddihcikiofaaW.PrintLast Go.Proofs.YtpfddihcikiofaaW.PrintMore
set_option linter.unusedVariables false
set_option linter.unusedSimpArgs false
set_option maxHeartbeats 8000000 in
set_option maxRecDepth 100000 in
theorem KboTotal_walk (a b : S24) (A : Option Addr) (c : Nat) (A' : Option Addr) (c' : Nat) (w : World)
    (hA : k24.C w A a.f1.length a.f1) (hc : a.f1.length ≤ c) (hA' : k24.C w A' b.f1.length b.f1) (hc' : b.f1.length ≤ c') :
    Calls Try.prog 12 #[.agg #[.int .i64 a.f0, .slice A a.f1.length c], .agg #[.int .i64 b.f0, .slice A' b.f1.length c']] w fun e w' => e = .returned (.bool true) ∧ Below w.heap.size w w' := by
  have hmx : Try.prog.follows .mixedOrders = true := by kernel_rfl
  obtain ⟨ok, hFine, hok⟩ := Fine_spec [a, b] (by simp)
  obtain ⟨kF, hF⟩ := hFine.rounds
  have hbA : Aside0 (∀ w1, Below w.heap.size w w1 → k24.C w1 A a.f1.length a.f1) := ⟨fun w1 h => Kd.C_below hA h⟩
  have hbB : Aside0 (∀ w1, Below w.heap.size w w1 → k24.C w1 A' b.f1.length b.f1) := ⟨fun w1 h => Kd.C_below hA' h⟩
  clear hA hA' hFine
  obtain ⟨kz, hal⟩ := alive10.rounds
  go_enter Try.func12, Try.ntmps12
  cases ok with
  | false =>
    go_wp2_with (first | (go_at_call 40; refine (soriteslaw10_alive.calls kz true _ hal).mono ?_; rintro e w1 ⟨rfl, hb1⟩; have hs1 := hb1.size; simp only [World.size_alloc] at hs1; have hB1 : Below w.heap.size w w1 := (below_alloc (below_alloc (Below.refl _ _) _) _).trans (hb1.mono (by simp; omega)); have hg0 : w1.heap[w.heap.size]? = some (.cells #[.int .i64 a.f0, .slice A a.f1.length c] 24 (0, 0)) := blk_below (blk_alloc (heap_alloc_new _ _) _) hb1; have hg1 : w1.heap[w.heap.size + 1]? = some (.cells #[.int .i64 b.f0, .slice A' b.f1.length c'] 24 (0, 0)) := blk_below (by have := heap_alloc_new (w.alloc (.cells #[.int .i64 a.f0, .slice A a.f1.length c] 24)) (.cells #[.int .i64 b.f0, .slice A' b.f1.length c'] 24); rw [World.size_alloc] at this; exact this) hb1; have hx0 : w1.cell? ⟨w.heap.size, 0, none⟩ = some (.int .i64 a.f0) := (blk_cell hg0 0).trans rfl; have hx1 : w1.cell? ⟨w.heap.size, 1, none⟩ = some (.slice A a.f1.length c) := (blk_cell hg0 1).trans rfl; have hy0 : w1.cell? ⟨w.heap.size + 1, 0, none⟩ = some (.int .i64 b.f0) := (blk_cell hg1 0).trans rfl; have hy1 : w1.cell? ⟨w.heap.size + 1, 1, none⟩ = some (.slice A' b.f1.length c') := (blk_cell hg1 1).trans rfl) | (go_at_call 21; refine (soriteslaw06_Fine.calls kF _ 2 [a, b] _ _ (C2 k24 rfl (K24 (hbA.out _ (below_alloc hB1 _)) hc) (K24 (hbB.out _ (below_alloc hB1 _)) hc') (heap_alloc_new _ _)) (by simp) hF).mono ?_; rintro e w2 ⟨rfl, hb2⟩; have hB2 : Below w.heap.size w w2 := (below_alloc hB1 _).trans (hb2.mono (by simp; omega)); have hh0 := blk_below (blk_alloc hg0 _) hb2; have hh1 := blk_below (blk_alloc hg1 _) hb2))
    go_ret
    exact ⟨rfl, hB2⟩
  | true =>
    go_wp2_with (first | (go_at_call 40; refine (soriteslaw10_alive.calls kz true _ hal).mono ?_; rintro e w1 ⟨rfl, hb1⟩; have hs1 := hb1.size; simp only [World.size_alloc] at hs1; have hB1 : Below w.heap.size w w1 := (below_alloc (below_alloc (Below.refl _ _) _) _).trans (hb1.mono (by simp; omega)); have hg0 : w1.heap[w.heap.size]? = some (.cells #[.int .i64 a.f0, .slice A a.f1.length c] 24 (0, 0)) := blk_below (blk_alloc (heap_alloc_new _ _) _) hb1; have hg1 : w1.heap[w.heap.size + 1]? = some (.cells #[.int .i64 b.f0, .slice A' b.f1.length c'] 24 (0, 0)) := blk_below (by have := heap_alloc_new (w.alloc (.cells #[.int .i64 a.f0, .slice A a.f1.length c] 24)) (.cells #[.int .i64 b.f0, .slice A' b.f1.length c'] 24); rw [World.size_alloc] at this; exact this) hb1; have hx0 : w1.cell? ⟨w.heap.size, 0, none⟩ = some (.int .i64 a.f0) := (blk_cell hg0 0).trans rfl; have hx1 : w1.cell? ⟨w.heap.size, 1, none⟩ = some (.slice A a.f1.length c) := (blk_cell hg0 1).trans rfl; have hy0 : w1.cell? ⟨w.heap.size + 1, 0, none⟩ = some (.int .i64 b.f0) := (blk_cell hg1 0).trans rfl; have hy1 : w1.cell? ⟨w.heap.size + 1, 1, none⟩ = some (.slice A' b.f1.length c') := (blk_cell hg1 1).trans rfl) | (go_at_call 21; refine (soriteslaw06_Fine.calls kF _ 2 [a, b] _ _ (C2 k24 rfl (K24 (hbA.out _ (below_alloc hB1 _)) hc) (K24 (hbB.out _ (below_alloc hB1 _)) hc') (heap_alloc_new _ _)) (by simp) hF).mono ?_; rintro e w2 ⟨rfl, hb2⟩; have hB2 : Below w.heap.size w w2 := (below_alloc hB1 _).trans (hb2.mono (by simp; omega)); have hh0 := blk_below (blk_alloc hg0 _) hb2; have hh1 := blk_below (blk_alloc hg1 _) hb2))
    have hoka := hok trivial a (by simp)
    have hokb := hok trivial b (by simp)
    refine of_two (x0 := a) (x1 := b) (g0 := w.heap.size) (g1 := w.heap.size + 1) (by kernel_rfl) (by kernel_rfl) rfl hh0 (hbA.out _ hB2) hc hoka.1 rfl hh1 (hbB.out _ hB2) hc' hokb.1 ?_
    intro w3 X0 q0 h0 X1 q1 h1 hb3 hge0 hx0' hq0 hC0 hge1 hx1' hq1 hC1
    have HB3 := Aside0.mk (hB2.trans (hb3.mono hB2.size))
    have HC0 := Aside0.mk hC0
    have HC1 := Aside0.mk hC1
    have HX0 := Aside0.mk hx0'
    have HX1 := Aside0.mk hx1'
    have hna := Nat.le_trans (nodes_le a) hoka.2
    have hnb := Nat.le_trans (nodes_le b) hokb.2
    have hfa := fit_of_ok a hoka.1 (by omega)
    have hfb := fit_of_ok b hokb.1 (by omega)
    obtain ⟨ka, ea⟩ := (Top_spec a (by rw [flatP_len]; omega)).rounds
    obtain ⟨kb, eb⟩ := (Top_spec b (by rw [flatP_len]; omega)).rounds
    obtain ⟨k1, e1⟩ := (KCompare_spec a b hfa hfb).rounds
    obtain ⟨k2, e2⟩ := (KCompare_spec b a hfb hfa).rounds
    have e3 := Same_of a b
    have hkz := kcmp_zero a b
    have htot : top (varsN (nodes a)) < 0 → top (varsN (nodes b)) < 0 → kcmp a b = - kcmp b a ∧ kcmp a b ≠ 2 := fun h1 h2 => kcmp_total (ground_of_top hfa h1) (ground_of_top hfb h2)
    have hrng := kcmp_range b a
    obtain ⟨ta, hta⟩ : ∃ x, x = top (varsN (nodes a)) := ⟨_, rfl⟩
    obtain ⟨tb, htb⟩ : ∃ x, x = top (varsN (nodes b)) := ⟨_, rfl⟩
    obtain ⟨k, hk⟩ : ∃ x, x = kcmp a b := ⟨_, rfl⟩
    obtain ⟨k', hk'⟩ : ∃ x, x = kcmp b a := ⟨_, rfl⟩
    obtain ⟨s, hs⟩ : ∃ x, x = (cmpT a b == 0) := ⟨_, rfl⟩
    rw [← hta] at ea htot
    rw [← htb] at eb htot
    rw [← hk] at e1 hkz htot
    rw [← hk'] at e2 htot hrng
    rw [← hs] at e3 hkz
    have FT := Aside0.mk (And.intro ea eb)
    have FK := Aside0.mk (And.intro e1 (And.intro e2 e3))
    have FH := Aside0.mk (And.intro htot (And.intro hkz hrng))
    have k00 : w3.cell? ⟨h0, 0, none⟩ = some (.int .i64 a.f0) := (blk_cell HX0.out 0).trans rfl
    have k01 : w3.cell? ⟨h0, 1, none⟩ = some (.slice X0 a.f1.length q0) := (blk_cell HX0.out 1).trans rfl
    clear ea eb e1 e2 e3 hkz htot hrng hta htb hk hk' hs hfa hfb hoka hokb hok hna hnb hbA hbB hC0 hC1 hx0' hx1' hb3 hg0 hg1 hh0 hh1 hx0 hx1 hy0 hy1 hB1 hB2 hb1 hb2 hF hge0 hge1
    simp only [List.setIfInBounds_toArray, List.set_cons_zero, List.set_cons_succ]
    by_cases h1 : 0 ≤ ta
    · have d1 : decide (0 ≤ ta) = true := decide_eq_true h1
      clear h1
      go_wp2_with (go_at_call 33; refine (term_Top.calls ka _ _ _ a.f1 ta _ HC0.out hq0 FT.out.1).mono ?_; rintro e w4 ⟨rfl, hb4⟩; have k10 : w4.cell? ⟨h1, 0, none⟩ = some (.int .i64 b.f0) := (blk_cell (blk_below HX1.out hb4) 0).trans rfl; have k11 : w4.cell? ⟨h1, 1, none⟩ = some (.slice X1 b.f1.length q1) := (blk_cell (blk_below HX1.out hb4) 1).trans rfl; have HB4 := Aside0.mk hb4; clear hb4)
      go_ret
      exact ⟨rfl, HB3.out.trans (HB4.out.mono HB3.out.size)⟩
    · have d1 : decide (0 ≤ ta) = false := decide_eq_false h1
      by_cases h2 : 0 ≤ tb
      · have d2 : decide (0 ≤ tb) = true := decide_eq_true h2
        clear h1 h2
        go_wp2_with (first | (go_at_call 33; refine (term_Top.calls kb _ _ _ b.f1 tb _ (Kd.C_below HC1.out HB4.out) hq1 FT.out.2).mono ?_; rintro e w5 ⟨rfl, hb5⟩; have HB5 := Aside0.mk (HB4.out.trans (hb5.mono HB4.out.size)); have k00 : w5.cell? ⟨h0, 0, none⟩ = some (.int .i64 a.f0) := (blk_cell (blk_below HX0.out HB5.out) 0).trans rfl; have k01 : w5.cell? ⟨h0, 1, none⟩ = some (.slice X0 a.f1.length q0) := (blk_cell (blk_below HX0.out HB5.out) 1).trans rfl; have l10 : w5.cell? ⟨h1, 0, none⟩ = some (.int .i64 b.f0) := (blk_cell (blk_below HX1.out HB5.out) 0).trans rfl; have l11 : w5.cell? ⟨h1, 1, none⟩ = some (.slice X1 b.f1.length q1) := (blk_cell (blk_below HX1.out HB5.out) 1).trans rfl; clear hb5) | (go_at_call 33; refine (term_Top.calls ka _ _ _ a.f1 ta _ HC0.out hq0 FT.out.1).mono ?_; rintro e w4 ⟨rfl, hb4⟩; have k10 : w4.cell? ⟨h1, 0, none⟩ = some (.int .i64 b.f0) := (blk_cell (blk_below HX1.out hb4) 0).trans rfl; have k11 : w4.cell? ⟨h1, 1, none⟩ = some (.slice X1 b.f1.length q1) := (blk_cell (blk_below HX1.out hb4) 1).trans rfl; have HB4 := Aside0.mk hb4; clear hb4))
        go_ret
        exact ⟨rfl, HB3.out.trans (HB5.out.mono HB3.out.size)⟩
      · have d2 : decide (0 ≤ tb) = false := decide_eq_false h2
        obtain ⟨t1, t2⟩ := FH.out.1 (by omega) (by omega)
        have d3 : (k == IntKind.i64.wrap (-k')) = true := by have := FH.out.2.2; rw [beq_iff_eq, i64_w]; unfold wrap64; omega
        have d3' : (k == wrap64 (-k')) = true := by rw [← i64_w]; exact d3
        have d4 : (k != 2) = true := by simpa using t2
        have d5 := FH.out.2.1
        clear h1 h2 t1 t2
        go_wp2_with (first | (go_at_call 33; refine (term_Top.calls kb _ _ _ b.f1 tb _ (Kd.C_below HC1.out HB4.out) hq1 FT.out.2).mono ?_; rintro e w5 ⟨rfl, hb5⟩; have HB5 := Aside0.mk (HB4.out.trans (hb5.mono HB4.out.size)); have k00 : w5.cell? ⟨h0, 0, none⟩ = some (.int .i64 a.f0) := (blk_cell (blk_below HX0.out HB5.out) 0).trans rfl; have k01 : w5.cell? ⟨h0, 1, none⟩ = some (.slice X0 a.f1.length q0) := (blk_cell (blk_below HX0.out HB5.out) 1).trans rfl; have l10 : w5.cell? ⟨h1, 0, none⟩ = some (.int .i64 b.f0) := (blk_cell (blk_below HX1.out HB5.out) 0).trans rfl; have l11 : w5.cell? ⟨h1, 1, none⟩ = some (.slice X1 b.f1.length q1) := (blk_cell (blk_below HX1.out HB5.out) 1).trans rfl; clear hb5) | (go_at_call 33; refine (term_Top.calls ka _ _ _ a.f1 ta _ HC0.out hq0 FT.out.1).mono ?_; rintro e w4 ⟨rfl, hb4⟩; have k10 : w4.cell? ⟨h1, 0, none⟩ = some (.int .i64 b.f0) := (blk_cell (blk_below HX1.out hb4) 0).trans rfl; have k11 : w4.cell? ⟨h1, 1, none⟩ = some (.slice X1 b.f1.length q1) := (blk_cell (blk_below HX1.out hb4) 1).trans rfl; have HB4 := Aside0.mk hb4; clear hb4) | (go_at_call 43; refine (kbo_Compare.calls k2 _ _ _ b.f1 _ _ _ a.f1 k' _ (Kd.C_below HC1.out HB6.out) hq1 (Kd.C_below HC0.out HB6.out) hq0 FK.out.2.1).mono ?_; rintro e w7 ⟨rfl, hb7⟩; have HB7 := Aside0.mk (HB6.out.trans (hb7.mono HB6.out.size)); have w7h00 : w7.cell? ⟨h0, 0, none⟩ = some (.int .i64 a.f0) := (blk_cell (blk_below HX0.out HB7.out) 0).trans rfl; have w7h01 : w7.cell? ⟨h0, 1, none⟩ = some (.slice X0 a.f1.length q0) := (blk_cell (blk_below HX0.out HB7.out) 1).trans rfl; have w7h10 : w7.cell? ⟨h1, 0, none⟩ = some (.int .i64 b.f0) := (blk_cell (blk_below HX1.out HB7.out) 0).trans rfl; have w7h11 : w7.cell? ⟨h1, 1, none⟩ = some (.slice X1 b.f1.length q1) := (blk_cell (blk_below HX1.out HB7.out) 1).trans rfl; clear hb7) | (go_at_call 43; refine (kbo_Compare.calls k1 _ _ _ a.f1 _ _ _ b.f1 k _ (Kd.C_below HC0.out HB5.out) hq0 (Kd.C_below HC1.out HB5.out) hq1 FK.out.1).mono ?_; rintro e w6 ⟨rfl, hb6⟩; have HB6 := Aside0.mk (HB5.out.trans (hb6.mono HB5.out.size)); have w6h00 : w6.cell? ⟨h0, 0, none⟩ = some (.int .i64 a.f0) := (blk_cell (blk_below HX0.out HB6.out) 0).trans rfl; have w6h01 : w6.cell? ⟨h0, 1, none⟩ = some (.slice X0 a.f1.length q0) := (blk_cell (blk_below HX0.out HB6.out) 1).trans rfl; have w6h10 : w6.cell? ⟨h1, 0, none⟩ = some (.int .i64 b.f0) := (blk_cell (blk_below HX1.out HB6.out) 0).trans rfl; have w6h11 : w6.cell? ⟨h1, 1, none⟩ = some (.slice X1 b.f1.length q1) := (blk_cell (blk_below HX1.out HB6.out) 1).trans rfl; clear hb6) | (go_at_call 37; refine (term_Same.calls _ _ _ a.f1 _ _ _ b.f1 s _ (Kd.C_below HC0.out HB7.out) hq0 (Kd.C_below HC1.out HB7.out) hq1 FK.out.2.2).mono ?_; rintro e w8 ⟨rfl, hb8⟩; have HB8 := Aside0.mk (HB7.out.trans (hb8.mono HB7.out.size)); clear hb8))
        go_ret
        exact ⟨rfl, HB3.out.trans (HB8.out.mono HB3.out.size)⟩
end Go.Proofs.Ytpfddihcikiofaa.P
end

section
namespace Go.Proofs.Ytpfddihcikiofaa.kboTotal
open Go.ChangeShapes Go.WideShapes Go.ChangeAt Go.RowKit
set_option linter.unusedVariables false
theorem own : ownKnob Try.prog.godebug = none := by kernel_rfl
theorem laidOut : laidOutB Try.prog = true := by kernel_rfl
set_option maxRecDepth 100000 in
theorem lifted (os : Os) (started : os.Started) (H : Type) (enc : TypeId × Value → H) :
    ReturnsInHanded {} Try.checked os 12 .any (Rows.kboTotalSpec.pre6 enc Try.prog Try.f12 Rows.kboTotalRow.domain false) (Rows.kboTotalSpec.post enc Try.prog Try.f12 false true false false) := by
  refine returnsInHanded_of_change_sized (C := Try.checked) own started (by kernel_rfl) Try.func12
    (ChangeSpec.witness6 (enc := enc) (C := Try.checked) false ⟨#[], #[.agg #[.int .i64 0, .slice none 0 0], .agg #[.int .i64 0, .slice none 0 0]], []⟩ 8 (by kernel_rfl) (by kernel_rfl) (by kernel_rfl) (by kernel_rfl)) ?_
  intro W base args ds gs before hval0 hW hcnd hsz0 _
  have hval : ∀ (j : Nat) t v, Try.f12.params[j]? = some t → args[j]? = some v → Value.okWide Try.prog W .any base t v := hval0
  have hW' := hW
  obtain ⟨p, q, hA0, hV, rfl, hfz, hnd⟩ := hW
  have hA : DataW.TrodAll enc Try.prog W 0 (fun _ => true) true Try.f12.params.toList args.toList ds p := hA0
  rw [Try.params12] at hA hval
  obtain ⟨v0, vs0, d0, ds0, p0, q0, hargs, rfl, rfl, h0, r0⟩ := trodAll_cons hA
  obtain ⟨v1, vs1, d1, ds1, p1, q1, rfl, rfl, rfl, h1, r1⟩ := trodAll_cons r0
  obtain ⟨rfl, rfl, rfl⟩ := trodAll_nil r1
  obtain rfl : args = #[v0, v1] := by cases args; simp_all
  obtain ⟨rfl, rfl⟩ := trodVars_none hV
  have k0 := h0
  have lt0 : ∀ x ∈ p0, x.block < W.heap.size := by obtain ⟨m, hm⟩ := k0; exact DataW.trod_lt m _ _ _ hm
  obtain ⟨t0, A0, c0, rfl, hc0, hC0, hw0⟩ := P.open_T (hval 0 24 v0 rfl rfl) h0
  have k1 := h1
  have lt1 : ∀ x ∈ p1, x.block < W.heap.size := by obtain ⟨m, hm⟩ := k1; exact DataW.trod_lt m _ _ _ hm
  obtain ⟨t1, A1, c1, rfl, hc1, hC1, hw1⟩ := P.open_T (hval 1 24 v1 rfl rfl) h1
  clear hA0 hval0 hsz0
  refine (P.KboTotal_walk t0 t1 A0 c0 A1 c1 W hC0 hc0 hC1 hc1).mono fun e W' ⟨he, bel⟩ => ?_
  subst he
  exact ⟨_, rfl, _, _, _, [], _, [], hW', trodAll_mk1 (shut_bool Try.underlying4 _), (trodAll_cons_mk (Below.trod laidOut (by kernel_rfl) (of_decide_eq_true (by kernel_rfl)) k0 bel lt0) (trodAll_cons_mk (Below.trod laidOut (by kernel_rfl) (of_decide_eq_true (by kernel_rfl)) k1 bel lt1) trodAll_mk0)), rfl, bel.frame _, fun h => by cases h⟩
theorem over : Rows.kboTotalRow.holds Try.pinned (OpenSpec.ofChange Rows.kboTotalSpec) :=
  OpenClaim.holds_of_wide 12 Try.f12 rfl rfl rfl rfl rfl rfl rfl ⟨rfl, rfl, rfl, rfl, rfl⟩ rfl rfl rfl rfl rfl (by kernel_rfl) Try.func12 (by kernel_rfl)
    (of_decide_eq_true (by kernel_rfl)) (by unfold Func.isWrapper; first | (rw [if_pos (by decide +kernel)]; kernel_rfl) | (rw [if_neg (by decide +kernel)]; exact ⟨rfl, rfl⟩))
    (fun os started H enc _ => lifted os started H enc)
end Go.Proofs.Ytpfddihcikiofaa.kboTotal
namespace Go.Proofs.Ytpfddihcikiofaa
theorem kboTotal_holds : Rows.KboTotalSaid := kboTotal.over
#print axioms kboTotal_holds
end Go.Proofs.Ytpfddihcikiofaa
end
