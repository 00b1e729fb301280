/- The law KboSizes holds of every input. Part 5 of 5: GStable, GRename, GKboSizes, LawKboSizes. -/
import Derived.Test.YtpfddihcikiofaaZKboSizes4
import Derived.Test.YtpfddihcikiofaaRows
import Derived.Test.YtpfddihcikiofaaZKboSizes2
import Derived.WalkKit
import Derived.ProofKit
import Derived.OpenShut
import Derived.ShutString
import Derived.ChangeOld
import Derived.Below
import Derived.SizedLaws
import Derived.Test.YtpfddihcikiofaaZKboSizes1
import Derived.Test.YtpfddihcikiofaaZKboSizes3
section
namespace Go.Proofs.Ytpfddihcikiofaa.P
open Go.RowKit Go.Proofs.YtpfddihcikiofaaW.PrintWords Go.Proofs.YtpfddihcikiofaaW.PrintLast Go.Proofs.YtpfddihcikiofaaW.PrintMore
set_option linter.unusedVariables false
set_option linter.unusedSimpArgs false
mutual
def mapT (g : Int → S30) : S30 → S30
  | ⟨f, l⟩ => if f < 0 then g f else ⟨f, mapTs g l⟩
def mapTs (g : Int → S30) : List S30 → List S30
  | [] => []
  | x :: r => mapT g x :: mapTs g r
end
theorem mapTs_eq (g : Int → S30) (l : List S30) : mapTs g l = l.map (mapT g) := by
  induction l with
  | nil => rfl
  | cons x l ih => rw [mapTs, ih]; rfl
def sumI (h : Int → Nat) : List Int → Nat
  | [] => 0
  | x :: r => h x + sumI h r
theorem sumI_append (h : Int → Nat) (a b : List Int) : sumI h (a ++ b) = sumI h a + sumI h b := by
  induction a with
  | nil => simp [sumI]
  | cons x a ih => rw [List.cons_append, sumI, sumI, ih]; omega
theorem sumI_erase (h : Int → Nat) (x : Int) : ∀ A : List Int, x ∈ A → sumI h A = h x + sumI h (A.erase x)
  | [], hx => by cases hx
  | y :: A, hx => by
    by_cases hxy : y = x
    · subst hxy; rw [List.erase_cons_head, sumI]
    · have hm : x ∈ A := (List.mem_cons.1 hx).resolve_left (fun e => hxy e.symm)
      rw [List.erase_cons_tail (by simpa using hxy), sumI, sumI, sumI_erase h x A hm]
      omega
theorem sumI_le (h : Int → Nat) : ∀ B A : List Int, (∀ v, B.count v ≤ A.count v) → sumI h B ≤ sumI h A
  | [], A, _ => Nat.zero_le _
  | x :: B, A, hc => by
    have hx : x ∈ A := by
      have := hc x
      rw [List.count_cons_self] at this
      exact List.count_pos_iff.1 (by omega)
    rw [sumI_erase h x A hx, sumI]
    have := sumI_le h B (A.erase x) (fun v => by
      have h1 := hc v
      by_cases hv : v = x
      · subst hv; rw [List.count_cons_self] at h1; rw [List.count_erase_self]; omega
      · rw [List.count_cons_of_ne (fun e => hv e.symm)] at h1
        rw [List.count_erase_of_ne hv]
        exact h1)
    omega
def vsN (l : List S30) : List Int := (l.map (·.f0)).filter (· < 0)
theorem vsN_append (a b : List S30) : vsN (a ++ b) = vsN a ++ vsN b := by unfold vsN; rw [List.map_append, List.filter_append]
theorem vsN_count {v : Int} (hv : v < 0) (l : List S30) : (vsN l).count v = countN v l := by
  rw [countN_map]
  unfold vsN
  rw [List.count_filter (by simpa using hv), List.count_eq_countP, List.countP_eq_length_filter]
theorem vsN_neg {v : Int} (l : List S30) (h : v ∈ vsN l) : v < 0 := by
  unfold vsN at h
  have := (List.mem_filter.1 h).2
  simpa using this
theorem vsN_node {f : Int} (hf : ¬ f < 0) (l : List S30) : vsN (nodes ⟨f, l⟩) = vsN (nodess l) := by
  have hn : nodes ⟨f, l⟩ = ⟨f, l⟩ :: nodess l := by simp [nodes, hf]
  rw [hn]
  unfold vsN
  simp [hf]
theorem vsN_var {f : Int} (hf : f < 0) (l : List S30) : vsN (nodes ⟨f, l⟩) = [f] := by
  have hn : nodes ⟨f, l⟩ = [⟨f, l⟩] := by simp [nodes, hf]
  rw [hn]
  unfold vsN
  simp [hf]
theorem map_len (g : Int → S30) : ∀ t : S30, (nodes (mapT g t)).length = (nodes t).length + sumI (fun v => (nodes (g v)).length - 1) (vsN (nodes t)) := by
  refine S30.ind ?_
  intro f l ih
  by_cases hf : f < 0
  · rw [vsN_var hf]
    have hn : nodes ⟨f, l⟩ = [⟨f, l⟩] := by simp [nodes, hf]
    have := nodes_pos (g f)
    simp only [mapT, hf, if_true, hn, List.length_singleton, sumI]
    omega
  · rw [vsN_node hf]
    have hn : ∀ m : List S30, nodes ⟨f, m⟩ = ⟨f, m⟩ :: nodess m := fun m => by simp [nodes, hf]
    simp only [mapT, hf, if_false]
    rw [hn, hn, List.length_cons, List.length_cons]
    have key : ∀ l : List S30, (∀ x ∈ l, (nodes (mapT g x)).length = (nodes x).length + sumI (fun v => (nodes (g v)).length - 1) (vsN (nodes x))) → (nodess (mapTs g l)).length = (nodess l).length + sumI (fun v => (nodes (g v)).length - 1) (vsN (nodess l)) := by
      intro l
      induction l with
      | nil => intro _; simp [mapTs, nodess, vsN, sumI]
      | cons x l ihl =>
        intro h
        rw [mapTs, nodess, nodess, List.length_append, List.length_append, vsN_append, sumI_append, h x (by simp), ihl (fun y hy => h y (by simp [hy]))]
        omega
    rw [key l ih]
    omega
theorem map_count (g : Int → S30) {v : Int} (hv : v < 0) : ∀ t : S30, countN v (nodes (mapT g t)) = sumI (fun x => countN v (nodes (g x))) (vsN (nodes t)) := by
  refine S30.ind ?_
  intro f l ih
  by_cases hf : f < 0
  · rw [vsN_var hf]
    simp only [mapT, hf, if_true, sumI]
    omega
  · rw [vsN_node hf]
    simp only [mapT, hf, if_false]
    rw [countN_nodes hf v hv]
    have key : ∀ l : List S30, (∀ x ∈ l, countN v (nodes (mapT g x)) = sumI (fun x => countN v (nodes (g x))) (vsN (nodes x))) → countN v (nodess (mapTs g l)) = sumI (fun x => countN v (nodes (g x))) (vsN (nodess l)) := by
      intro l
      induction l with
      | nil => intro _; simp [mapTs, nodess, vsN, sumI, countN]
      | cons x l ihl =>
        intro h
        rw [mapTs, nodess, nodess, countN_append, vsN_append, sumI_append, h x (by simp), ihl (fun y hy => h y (by simp [hy]))]
    exact key l ih
theorem map_congr (g : Int → S30) : ∀ a b : S30, cmpT a b = 0 → cmpT (mapT g a) (mapT g b) = 0 := by
  refine S30.ind ?_
  intro f l ih b h
  obtain ⟨h', m⟩ := b
  obtain ⟨rfl, h2⟩ := cmp_zero h
  by_cases hf : f < 0
  · simp only [mapT, hf, if_true]; exact cmp_self _
  · obtain ⟨h3, h4⟩ := h2 hf
    simp only [mapT, hf, if_false]
    refine cmp_zero' rfl (fun _ => ⟨by rw [mapTs_eq, mapTs_eq]; simpa using h3, (cmpTs_zero_iff _ _ (by rw [mapTs_eq, mapTs_eq]; simpa using h3)).2 (fun j x y hx hy => ?_)⟩)
    rw [mapTs_eq, List.getElem?_map] at hx hy
    obtain ⟨x0, hx0, rfl⟩ := Option.map_eq_some_iff.1 hx
    obtain ⟨y0, hy0, rfl⟩ := Option.map_eq_some_iff.1 hy
    exact ih x0 (List.mem_of_getElem? hx0) y0 ((cmpTs_zero_iff l m h3).1 h4 j x0 y0 hx0 hy0)
theorem cov_count {a b : S30} (h : covT a b = true) (v : Int) : (vsN (nodes b)).count v ≤ (vsN (nodes a)).count v := by
  by_cases hv : v < 0
  · rw [vsN_count hv, vsN_count hv]
    have := (covT_iff a b).1 h v
    rw [netV_eq, if_pos hv] at this
    omega
  · have : (vsN (nodes b)).count v = 0 := List.count_eq_zero.2 (fun hm => hv (vsN_neg _ hm))
    omega
theorem map_cov (g : Int → S30) {a b : S30} (h : covT a b = true) : covT (mapT g a) (mapT g b) = true := by
  rw [covT_iff]
  intro v
  rw [netV_eq]
  by_cases hv : v < 0
  · rw [if_pos hv, map_count g hv, map_count g hv]
    have := sumI_le (fun x => countN v (nodes (g x))) _ _ (cov_count h)
    omega
  · rw [if_neg hv]; exact Int.le_refl _
theorem map_grow (g : Int → S30) {a b : S30} (h : covT a b = true) : ∃ d : Nat, (nodes (mapT g a)).length + (nodes b).length = (nodes (mapT g b)).length + (nodes a).length + d := by
  rw [map_len, map_len]
  have := sumI_le (fun v => (nodes (g v)).length - 1) _ _ (cov_count h)
  exact ⟨sumI (fun v => (nodes (g v)).length - 1) (vsN (nodes a)) - sumI (fun v => (nodes (g v)).length - 1) (vsN (nodes b)), by omega⟩
theorem gt_ne' {a b : S30} (h : gtT a b = true) : cmpT a b ≠ 0 := fun e => by rw [gt_same e] at h; cases h
theorem gt_stable (g : Int → S30) : ∀ a b : S30, gtT a b = true → gtT (mapT g a) (mapT g b) = true := by
  refine S30.ind ?_
  intro f l ih b h
  obtain ⟨f2, m⟩ := b
  have h0 := h
  rw [gtT, Bool.and_eq_true] at h
  obtain ⟨hcov, h⟩ := h
  have hc2 := map_cov g hcov
  obtain ⟨d, hd⟩ := map_grow g hcov
  have hgt : ∀ x y : S30, covT x y = true → (nodes y).length < (nodes x).length → gtT x y = true := by
    intro x y hxy hlt
    obtain ⟨fx, lx⟩ := x
    obtain ⟨fy, ly⟩ := y
    rw [gtT, hxy, if_neg (by omega), decide_eq_true hlt]
    rfl
  by_cases hn : (nodes ⟨f, l⟩).length = (nodes ⟨f2, m⟩).length
  · rw [if_pos hn] at h
    by_cases hd0 : d = 0
    · by_cases hv : f < 0 ∨ f2 < 0
      · rw [if_pos hv] at h; cases h
      · rw [if_neg hv] at h
        have hf : ¬ f < 0 := by omega
        have hf2 : ¬ f2 < 0 := by omega
        simp only [mapT, hf, hf2, if_false] at hc2 hd ⊢
        rw [gtT, hc2, if_pos (by omega), if_neg hv, Bool.true_and]
        by_cases hff : f = f2
        · rw [if_pos hff] at h ⊢
          by_cases hlm : l.length = m.length
          · rw [if_pos hlm] at h
            rw [if_pos (by rw [mapTs_eq, mapTs_eq]; simpa using hlm)]
            have key : ∀ l m : List S30, (∀ x ∈ l, ∀ b, gtT x b = true → gtT (mapT g x) (mapT g b) = true) → gtTs l m = true → gtTs (mapTs g l) (mapTs g m) = true := by
              intro l
              induction l with
              | nil => intro m _ h; rw [gtTs] at h; cases h
              | cons x l ihl =>
                intro m hx h
                cases m with
                | nil => rw [gtTs] at h; cases h
                | cons y m =>
                  rw [mapTs, mapTs, gtTs]
                  rw [gtTs] at h
                  by_cases hxy : cmpT x y = 0
                  · rw [if_pos hxy] at h
                    rw [if_pos (map_congr g x y hxy)]
                    exact ihl m (fun x hx' => hx x (by simp [hx'])) h
                  · rw [if_neg hxy] at h
                    have h9 := hx x (by simp) y h
                    rw [if_neg (gt_ne' h9)]
                    exact h9
            exact key l m ih h
          · rw [if_neg hlm] at h
            rw [if_neg (by rw [mapTs_eq, mapTs_eq]; simpa using hlm), mapTs_eq, mapTs_eq, List.length_map, List.length_map]
            exact h
        · rw [if_neg hff] at h ⊢
          exact h
    · exact hgt _ _ hc2 (by omega)
  · rw [if_neg hn, decide_eq_true_eq] at h
    exact hgt _ _ hc2 (by omega)
theorem ren_back (d : Int) : ∀ t : S30, (∀ x ∈ nodes t, x.f0 < 0 → x.f0 - d < 0) → cmpT (mapT (fun f => ⟨f + d, []⟩) (mapT (fun f => ⟨f - d, []⟩) t)) t = 0 := by
  refine S30.ind ?_
  intro f l ih hx
  by_cases hf : f < 0
  · have h1 := hx ⟨f, l⟩ (by simp [nodes]) hf
    have h1' : f - d < 0 := h1
    simp only [mapT, hf, h1', if_true]
    exact cmp_zero' (by omega) (fun h => absurd (by omega : f - d + d < 0) h)
  · have hn : nodes ⟨f, l⟩ = ⟨f, l⟩ :: nodess l := by simp [nodes, hf]
    simp only [mapT, hf, if_false]
    refine cmp_zero' rfl (fun _ => ⟨by simp [mapTs_eq], (cmpTs_zero_iff _ _ (by simp [mapTs_eq])).2 (fun j x y hj hy => ?_)⟩)
    rw [mapTs_eq, mapTs_eq, List.getElem?_map, List.getElem?_map, hy] at hj
    simp at hj
    rw [← hj]
    exact ih y (List.mem_of_getElem? hy) (fun z hz => hx z (by rw [hn]; exact List.mem_cons_of_mem _ (nodess_mem (List.mem_of_getElem? hy) hz)))
theorem ren_gt (d : Int) (hd : 0 ≤ d) (a b : S30) : gtT (mapT (fun f => ⟨f - d, []⟩) a) (mapT (fun f => ⟨f - d, []⟩) b) = gtT a b := by
  rw [Bool.eq_iff_iff]
  constructor
  · intro h
    have h2 := gt_stable (fun f => ⟨f + d, []⟩) _ _ h
    rw [gt_congr _ a _ b (ren_back d a (fun x _ h => by omega)) (ren_back d b (fun x _ h => by omega))] at h2
    exact h2
  · exact gt_stable _ a b
end Go.Proofs.Ytpfddihcikiofaa.P
end

section
namespace Go.Proofs.Ytpfddihcikiofaa.P
open Go.RowKit Go.Proofs.YtpfddihcikiofaaW.PrintWords Go.Proofs.YtpfddihcikiofaaW.PrintLast Go.Proofs.YtpfddihcikiofaaW.PrintMore
set_option linter.unusedVariables false
set_option linter.unusedSimpArgs false
set_option maxHeartbeats 4000000 in
set_option maxRecDepth 100000 in
theorem subst_Rename.calls (k : Nat) (a0_0 : Int) (A0_1 : Option Addr) (c0_1 : Nat) (l0_1 : List (S30)) (a1 : Int) (r1 : Int) (r2 : List (S30)) (w : World) (hr : Kd.C k30 w A0_1 l0_1.length l0_1) (hc : l0_1.length ≤ c0_1) (h : subst_mappedR.f k a0_0 l0_1 a1 = some (r1, r2)) :
    Calls Try.prog 49 #[.agg #[.int .i64 a0_0, .slice A0_1 l0_1.length c0_1], .int .i64 a1] w fun e w' => ∃ v1_ : Value, e = .returned (.agg #[.int .i64 r1, v1_]) ∧ Kd.R k30 30 w' w.heap.size (fun _ => True) v1_ r2 ∧ Below w.heap.size w w' := by
  obtain ⟨w1, hw1⟩ : ∃ w1, w1 = w.alloc (.cells #[.int .i64 a0_0, .slice A0_1 l0_1.length c0_1] 30) := ⟨_, rfl⟩
  obtain ⟨w2, hw2⟩ : ∃ w2, w2 = w1.alloc (.cells #[.int .i64 a1] 3) := ⟨_, rfl⟩
  obtain ⟨w3, hw3⟩ : ∃ w3, w3 = w2.alloc (.cells #[.int .i64 0, .slice none 0 0] 30) := ⟨_, rfl⟩
  have hs1 : w1.heap.size = w.heap.size + 1 := by rw [hw1, World.size_alloc]
  have hs2 : w2.heap.size = w.heap.size + 1 + 1 := by rw [hw2, World.size_alloc, hs1]
  have hs3 : w3.heap.size = w.heap.size + 1 + 1 + 1 := by rw [hw3, World.size_alloc, hs2]
  have b1 : Below w.heap.size w w1 := by rw [hw1]; exact below_alloc (Below.refl _ _) _
  have b2 : Below w.heap.size w w2 := by rw [hw2]; exact below_alloc b1 _
  have b3 : Below w.heap.size w w3 := by rw [hw3]; exact below_alloc b2 _
  have k2 : w3.heap[w.heap.size + 1]? = some (.cells #[.int .i64 a1] 3 (0, 0)) := by rw [hw3, ← hs1]; refine blk_alloc ?_ _; rw [hw2]; exact heap_alloc_new w1 _
  have k3 : w3.heap[w.heap.size + 1 + 1]? = some (.cells #[.int .i64 0, .slice none 0 0] 30 (0, 0)) := by rw [hw3, ← hs2]; exact heap_alloc_new w2 _
  have hcall := Aside0.mk (subst_mappedR.calls (w.heap.size + 1) k a0_0 A0_1 c0_1 l0_1 a1 r1 r2 w3 (Kd.C_below hr b3) hc k2 h)
  have K3 := Aside0.mk k3
  have B3 := Aside0.mk b3
  have S3 := Aside0.mk hs3
  have HW : Aside0 (w3 = ((w.alloc (.cells #[.int .i64 a0_0, .slice A0_1 l0_1.length c0_1] 30)).alloc (.cells #[.int .i64 a1] 3)).alloc (.cells #[.int .i64 0, .slice none 0 0] 30)) := ⟨by rw [hw3, hw2, hw1]⟩
  clear hw1 hw2 hw3 hs1 hs2 hs3 b1 b2 b3 k2 k3 hr h
  have z0 := blk_frozen K3.out 0
  go_enter Try.func49, Try.ntmps49
  go_wp2_with (go_at_call 81; rw [← HW.out]; refine hcall.out.mono ?_; rintro e w4 ⟨v1, rfl, hR, hb⟩; obtain ⟨A1, c1, hv⟩ := Kd.R_slice hR; subst hv; have hbx := blk_below K3.out hb; have y0 : w4.cell? ⟨w.heap.size + 1 + 1, 0, none⟩ = some (.int .i64 0) := (blk_cell hbx 0).trans rfl; have y1 : w4.cell? ⟨w.heap.size + 1 + 1, 1, none⟩ = some (.slice none 0 0) := (blk_cell hbx 1).trans rfl; have x0 := blk_frozen hbx 0; have x1 := blk_frozen hbx 1)
  refine bodyPost_ret (results_cell_row rfl _ _ (w.heap.size + 1 + 1) 30 #[.int .i64 r1, .slice A1 r2.length c1] (0, 0) _ rfl ((blk_set (blk_set hbx 0 _) 1 _).trans rfl) Try.underlying30 rfl (by kernel_rfl)) rfl ?_
  have hR2 := Kd.R_lower (Kd.R_newB hR (g := w.heap.size + 1 + 1) K3.out) (by have := S3.out; omega : w.heap.size ≤ w3.heap.size)
  refine ⟨_, rfl, Kd.R_mono (Kd.R_far (p := ⟨w.heap.size + 1 + 1, 1, none⟩) (Kd.R_far (p := ⟨w.heap.size + 1 + 1, 0, none⟩) (Kd.R_mono hR2 (fun k_ hk => (⟨hk, hk.2⟩ : _ ∧ k_ ≠ w.heap.size + 1 + 1))) (fun _ hk => hk.2) _) (fun _ hk => hk.2) _) (fun _ _ => trivial), below_set2 (B3.out.trans (hb.mono (by have := S3.out; omega))) (by omega)⟩
theorem Rename_spec (d : Int) (hd : 0 ≤ d ∧ d ≤ 255) : ∀ t : S30, fit t → Ev (fun k => subst_mappedR.f k t.f0 t.f1 d) ((mapT (fun f => ⟨f - d, []⟩) t).f0, (mapT (fun f => ⟨f - d, []⟩) t).f1) := by
  refine S30.ind ?_
  intro f l ih hfit
  have hn := fit_num hfit
  have hn1 : -1000000 ≤ f ∧ f ≤ 1000000 := hn
  have hmx : mx d 0 = d := by unfold mx; split <;> omega
  by_cases hf : f < 0
  · refine Ev.step (f := fun _ => some (f - d, [])) (fun k => ?_) ?_
    · rw [subst_mappedR.f, if_pos hf]
      unfold renameV
      rw [hmx, Option.bind_some, w64 (-1 - f) (by omega), w64 (-1 - f + d) (by omega), w64 _ (by omega)]
      simp
      omega
    · simp only [mapT, hf, if_true]; exact Ev.now _
  · obtain ⟨hll, hsub⟩ := fit_sub hf hfit
    simp only [mapT, hf, if_false]
    refine Ev.step (f := fun k => subst_mappedR.l0 k d l (l.length : Int) ((0 : Nat) : Int) f []) (fun k => by rw [subst_mappedR.f, if_neg hf]; rfl) ?_
    have key : ∀ n i, l.length - i = n → i ≤ l.length → Ev (fun k => subst_mappedR.l0 k d l (l.length : Int) (i : Int) f ((l.take i).map (mapT (fun f => ⟨f - d, []⟩)))) (f, mapTs (fun f => ⟨f - d, []⟩) l) := by
      intro n
      induction n with
      | zero =>
        intro i hi hle
        refine Ev.step (f := fun _ => some (f, l.map (mapT (fun f => ⟨f - d, []⟩)))) (fun k => by rw [subst_mappedR.l0, if_neg (by omega), List.take_of_length_le (by omega)]) ?_
        rw [mapTs_eq]; exact Ev.now _
      | succ n ihn =>
        intro i hi hle
        have hlt : i < l.length := by omega
        have hmem := List.getElem_mem hlt
        refine Ev.step (f := fun k => (subst_mappedR.f k l[i].f0 l[i].f1 d).bind fun t => if ((l.take i).map (mapT (fun f => ⟨f - d, []⟩))).length < 4398046511104 then subst_mappedR.l0 k d l (l.length : Int) ((i + 1 : Nat) : Int) f ((l.take i).map (mapT (fun f => ⟨f - d, []⟩)) ++ [(⟨t.1, t.2⟩ : S30)]) else none) (fun k => ?_) (Ev.bind (ih l[i] hmem (hsub _ hmem)) ?_)
        · rw [subst_mappedR.l0, if_pos (by omega), if_pos (by omega), if_pos (by omega), rdC_at l i hlt, wsucc i l.length hlt (by omega)]
        · simp only [List.length_map, List.length_take]
          simp only [if_pos (show min i l.length < 4398046511104 by omega)]
          have := ihn (i + 1) (by omega) (by omega)
          rw [List.take_succ_eq_append_getElem hlt, List.map_append] at this
          simp only [S30.eta]
          exact this
    have := key l.length 0 rfl (by omega)
    simpa using this
theorem ren_fit (d : Int) (hd : 0 ≤ d ∧ d ≤ 255) : ∀ t : S30, (nodes t).length ≤ 1000000 → (∀ x ∈ nodes t, -1000 ≤ x.f0 ∧ x.f0 ≤ 1000) → fit (mapT (fun f => ⟨f - d, []⟩) t) := by
  intro t hl hx
  have hnum : ∀ t : S30, (∀ x ∈ nodes t, -1000 ≤ x.f0 ∧ x.f0 ≤ 1000) → ∀ y ∈ nodes (mapT (fun f => ⟨f - d, []⟩) t), -1000000 ≤ y.f0 ∧ y.f0 ≤ 1000000 := by
    refine S30.ind ?_
    intro f l ih hx y hy
    have h0 := hx ⟨f, l⟩ (by simp [nodes])
    have h0' : -1000 ≤ f ∧ f ≤ 1000 := h0
    by_cases hf : f < 0
    · simp only [mapT, hf, if_true, nodes, show f - d < 0 by omega, List.mem_singleton] at hy
      subst hy
      show -1000000 ≤ f - d ∧ f - d ≤ 1000000
      omega
    · have hn : ∀ m : List S30, nodes ⟨f, m⟩ = ⟨f, m⟩ :: nodess m := fun m => by simp [nodes, hf]
      simp only [mapT, hf, if_false] at hy
      rw [hn] at hy
      rcases List.mem_cons.1 hy with rfl | hy
      · show -1000000 ≤ f ∧ f ≤ 1000000
        omega
      · have key : ∀ l : List S30, (∀ x ∈ l, ∀ y ∈ nodes (mapT (fun f => ⟨f - d, []⟩) x), -1000000 ≤ y.f0 ∧ y.f0 ≤ 1000000) → ∀ y ∈ nodess (mapTs (fun f => ⟨f - d, []⟩) l), -1000000 ≤ y.f0 ∧ y.f0 ≤ 1000000 := by
          intro l
          induction l with
          | nil => intro _ y hy; rw [mapTs, nodess] at hy; cases hy
          | cons x l ihl =>
            intro h y hy
            rw [mapTs, nodess] at hy
            rcases List.mem_append.1 hy with hy | hy
            · exact h x (by simp) y hy
            · exact ihl (fun x hx => h x (by simp [hx])) y hy
        refine key l (fun x hxl => ih x hxl (fun z hz => hx z (by rw [hn]; exact List.mem_cons_of_mem _ (nodess_mem hxl hz)))) y hy
  refine ⟨?_, hnum t hx⟩
  rw [map_len]
  have hz : ∀ l : List Int, (∀ v ∈ l, v < 0) → sumI (fun v => (nodes (⟨v - d, []⟩ : S30)).length - 1) l = 0 := by
    intro l
    induction l with
    | nil => intro _; rfl
    | cons v l ih =>
      intro h
      have hv := h v (by simp)
      rw [sumI, ih (fun v hv => h v (by simp [hv]))]
      simp [nodes, show v - d < 0 by omega]
  rw [hz _ (fun v hv => vsN_neg _ hv)]
  omega
end Go.Proofs.Ytpfddihcikiofaa.P
end

section
namespace Go.Proofs.Ytpfddihcikiofaa.P
open Go.RowKit Go.Proofs.YtpfddihcikiofaaW.PrintWords Go.Proofs.YtpfddihcikiofaaW.PrintLast Go.Proofs.YtpfddihcikiofaaW.PrintMore
set_option linter.unusedVariables false
set_option linter.unusedSimpArgs false
theorem ok_nums : ∀ t : S30, ok t → ∀ x ∈ nodes t, -1000 ≤ x.f0 ∧ x.f0 ≤ 1000 := by
  refine S30.ind ?_
  intro f l ih h
  obtain ⟨h1, h2, h3, h4⟩ := h
  have hl : ∀ y ∈ nodess l, -1000 ≤ y.f0 ∧ y.f0 ≤ 1000 := by
    have := oks_mem h4
    clear h1 h2 h3 h4
    induction l with
    | nil => intro y hy; cases hy
    | cons x l ihl =>
      intro y hy
      rw [nodess, List.mem_append] at hy
      rcases hy with hy | hy
      · exact ih x (by simp) (this x (by simp)) y hy
      · exact ihl (fun x hx => ih x (by simp [hx])) (fun x hx => this x (by simp [hx])) y hy
  intro y hy
  rw [nodes] at hy
  rcases List.mem_cons.1 hy with rfl | hy
  · exact ⟨by show -1000 ≤ f; omega, by show f ≤ 1000; omega⟩
  · split at hy
    · cases hy
    · exact hl y hy
theorem gt_cov {a b : S30} (h : gtT a b = true) : covT a b = true := by
  obtain ⟨f, l⟩ := a
  obtain ⟨g, m⟩ := b
  rw [gtT, Bool.and_eq_true] at h
  exact h.1
theorem cov_small {a b : S30} (h : covT a b = true) (h2 : gtT a b = false) : (nodes a).length ≤ (nodes b).length := by
  obtain ⟨f, l⟩ := a
  obtain ⟨g, m⟩ := b
  rw [gtT, h, Bool.true_and] at h2
  by_cases h3 : (nodes ⟨f, l⟩).length = (nodes ⟨g, m⟩).length
  · omega
  · rw [if_neg h3] at h2
    have := of_decide_eq_false h2
    omega
set_option maxHeartbeats 8000000 in
set_option maxRecDepth 100000 in
theorem KboSizes_walk (a b : S24) (n : Int) (A : Option Addr) (c : Nat) (A' : Option Addr) (c' : Nat) (w : World) (hn : 0 ≤ n ∧ n ≤ 255)
    (hA : k24.C w A a.f1.length a.f1) (hc : a.f1.length ≤ c) (hA' : k24.C w A' b.f1.length b.f1) (hc' : b.f1.length ≤ c') :
    Calls Try.prog 10 #[.agg #[.int .i64 a.f0, .slice A a.f1.length c], .agg #[.int .i64 b.f0, .slice A' b.f1.length c'], .int .u8 n] w fun e w' => e = .returned (.bool true) ∧ Below w.heap.size w w' := by
  have hmx : Try.prog.follows .mixedOrders = true := by kernel_rfl
  obtain ⟨ok, hFine, hok⟩ := Fine_spec [a, b] (by simp)
  obtain ⟨kF, hF⟩ := hFine.rounds
  have hbA : Aside0 (∀ w1, Below w.heap.size w w1 → k24.C w1 A a.f1.length a.f1) := ⟨fun w1 h => Kd.C_below hA h⟩
  have hbB : Aside0 (∀ w1, Below w.heap.size w w1 → k24.C w1 A' b.f1.length b.f1) := ⟨fun w1 h => Kd.C_below hA' h⟩
  clear hA hA' hFine
  obtain ⟨kz, hal⟩ := alive10.rounds
  go_enter Try.func10, Try.ntmps10
  cases ok with
  | false =>
    go_wp2_with (first | (go_at_call 40; refine (soriteslaw10_alive.calls kz true _ hal).mono ?_; rintro e w1 ⟨rfl, hb1⟩; have hs1 := hb1.size; simp only [World.size_alloc] at hs1; have hB1 : Below w.heap.size w w1 := (below_alloc (below_alloc (Below.refl _ _) _) _).trans (hb1.mono (by simp; omega)); have hg0 : w1.heap[w.heap.size]? = some (.cells #[.int .i64 a.f0, .slice A a.f1.length c] 24 (0, 0)) := blk_below (blk_alloc (heap_alloc_new _ _) _) hb1; have hg1 : w1.heap[w.heap.size + 1]? = some (.cells #[.int .i64 b.f0, .slice A' b.f1.length c'] 24 (0, 0)) := blk_below (by have := heap_alloc_new (w.alloc (.cells #[.int .i64 a.f0, .slice A a.f1.length c] 24)) (.cells #[.int .i64 b.f0, .slice A' b.f1.length c'] 24); rw [World.size_alloc] at this; exact this) hb1; have hx0 : w1.cell? ⟨w.heap.size, 0, none⟩ = some (.int .i64 a.f0) := (blk_cell hg0 0).trans rfl; have hx1 : w1.cell? ⟨w.heap.size, 1, none⟩ = some (.slice A a.f1.length c) := (blk_cell hg0 1).trans rfl; have hy0 : w1.cell? ⟨w.heap.size + 1, 0, none⟩ = some (.int .i64 b.f0) := (blk_cell hg1 0).trans rfl; have hy1 : w1.cell? ⟨w.heap.size + 1, 1, none⟩ = some (.slice A' b.f1.length c') := (blk_cell hg1 1).trans rfl) | (go_at_call 21; refine (soriteslaw06_Fine.calls kF _ 2 [a, b] _ _ (C2 k24 rfl (K24 (hbA.out _ (below_alloc hB1 _)) hc) (K24 (hbB.out _ (below_alloc hB1 _)) hc') (heap_alloc_new _ _)) (by simp) hF).mono ?_; rintro e w2 ⟨rfl, hb2⟩; have hB2 : Below w.heap.size w w2 := (below_alloc hB1 _).trans (hb2.mono (by simp; omega)); have hh0 := blk_below (blk_alloc hg0 _) hb2; have hh1 := blk_below (blk_alloc hg1 _) hb2))
    go_ret
    exact ⟨rfl, hB2⟩
  | true =>
    go_wp2_with (first | (go_at_call 40; refine (soriteslaw10_alive.calls kz true _ hal).mono ?_; rintro e w1 ⟨rfl, hb1⟩; have hs1 := hb1.size; simp only [World.size_alloc] at hs1; have hB1 : Below w.heap.size w w1 := (below_alloc (below_alloc (Below.refl _ _) _) _).trans (hb1.mono (by simp; omega)); have hg0 : w1.heap[w.heap.size]? = some (.cells #[.int .i64 a.f0, .slice A a.f1.length c] 24 (0, 0)) := blk_below (blk_alloc (heap_alloc_new _ _) _) hb1; have hg1 : w1.heap[w.heap.size + 1]? = some (.cells #[.int .i64 b.f0, .slice A' b.f1.length c'] 24 (0, 0)) := blk_below (by have := heap_alloc_new (w.alloc (.cells #[.int .i64 a.f0, .slice A a.f1.length c] 24)) (.cells #[.int .i64 b.f0, .slice A' b.f1.length c'] 24); rw [World.size_alloc] at this; exact this) hb1; have hx0 : w1.cell? ⟨w.heap.size, 0, none⟩ = some (.int .i64 a.f0) := (blk_cell hg0 0).trans rfl; have hx1 : w1.cell? ⟨w.heap.size, 1, none⟩ = some (.slice A a.f1.length c) := (blk_cell hg0 1).trans rfl; have hy0 : w1.cell? ⟨w.heap.size + 1, 0, none⟩ = some (.int .i64 b.f0) := (blk_cell hg1 0).trans rfl; have hy1 : w1.cell? ⟨w.heap.size + 1, 1, none⟩ = some (.slice A' b.f1.length c') := (blk_cell hg1 1).trans rfl) | (go_at_call 21; refine (soriteslaw06_Fine.calls kF _ 2 [a, b] _ _ (C2 k24 rfl (K24 (hbA.out _ (below_alloc hB1 _)) hc) (K24 (hbB.out _ (below_alloc hB1 _)) hc') (heap_alloc_new _ _)) (by simp) hF).mono ?_; rintro e w2 ⟨rfl, hb2⟩; have hB2 : Below w.heap.size w w2 := (below_alloc hB1 _).trans (hb2.mono (by simp; omega)); have hh0 := blk_below (blk_alloc hg0 _) hb2; have hh1 := blk_below (blk_alloc hg1 _) hb2))
    have hoka := hok trivial a (by simp)
    have hokb := hok trivial b (by simp)
    refine of_two (x0 := a) (x1 := b) (g0 := w.heap.size) (g1 := w.heap.size + 1) (by kernel_rfl) (by kernel_rfl) rfl hh0 (hbA.out _ hB2) hc hoka.1 rfl hh1 (hbB.out _ hB2) hc' hokb.1 ?_
    intro w3 X0 q0 h0 X1 q1 h1 hb3 hge0 hx0' hq0 hC0 hge1 hx1' hq1 hC1
    have HB3 := Aside0.mk (hB2.trans (hb3.mono hB2.size))
    have HC0 := Aside0.mk hC0
    have HC1 := Aside0.mk hC1
    have HX0 := Aside0.mk hx0'
    have HX1 := Aside0.mk hx1'
    have hna := Nat.le_trans (nodes_le a) hoka.2
    have hnb := Nat.le_trans (nodes_le b) hokb.2
    have hfa := fit_of_ok a hoka.1 (by omega)
    have hfb := fit_of_ok b hokb.1 (by omega)
    obtain ⟨ar, har⟩ : ∃ x, x = mapT (fun f => ⟨f - n, []⟩) a := ⟨_, rfl⟩
    obtain ⟨br, hbr⟩ : ∃ x, x = mapT (fun f => ⟨f - n, []⟩) b := ⟨_, rfl⟩
    have hsml : ∀ t : S30, ok t → ∀ x ∈ nodes t, -1000 ≤ x.f0 ∧ x.f0 ≤ 1000 := fun t h x hx => ok_nums t h x hx
    have hfar : fit ar := by rw [har]; exact ren_fit n hn a (by omega) (hsml a hoka.1)
    have hfbr : fit br := by rw [hbr]; exact ren_fit n hn b (by omega) (hsml b hokb.1)
    obtain ⟨g, hg⟩ : ∃ x, x = gtT a b := ⟨_, rfl⟩
    obtain ⟨cv, hcv⟩ : ∃ x, x = covT a b := ⟨_, rfl⟩
    have hgr : gtT ar br = g := by rw [har, hbr, hg]; exact ren_gt n hn.1 a b
    have hgu : gtT ⟨9, [a, b]⟩ ⟨9, [b, b]⟩ = g := by
      have h1 := (ctx_one (f := 9) (l := [b, b]) (i := 0) (by decide) (by simp) a b).1
      rw [hg]
      exact h1
    have hf9 : ∀ x : S30, fit x → (nodes x).length ≤ 60 → fit ⟨9, [x, b]⟩ := fun x hx hl => by
      have hn9 : nodes ⟨9, [x, b]⟩ = ⟨9, [x, b]⟩ :: (nodes x ++ nodes b) := by simp [nodes, nodess]
      refine ⟨by rw [hn9, List.length_cons, List.length_append]; omega, ?_⟩
      intro y hy
      rw [hn9] at hy
      rcases List.mem_cons.1 hy with rfl | hy
      · exact ⟨by show (-1000000 : Int) ≤ 9; omega, by show (9 : Int) ≤ 1000000; omega⟩
      · rcases List.mem_append.1 hy with h | h
        · exact hx.2 y h
        · exact hfb.2 y h
    obtain ⟨kg, eg⟩ := (KGreater_spec a b hfa hfb).rounds
    rw [← hg] at eg
    obtain ⟨ka, ea⟩ := (Rename_spec n hn a hfa).rounds
    obtain ⟨kb, eb⟩ := (Rename_spec n hn b hfb).rounds
    rw [← har] at ea
    rw [← hbr] at eb
    obtain ⟨kr, er⟩ := (KGreater_spec ar br hfar hfbr).rounds
    rw [hgr] at er
    obtain ⟨ku, eu⟩ := (KGreater_spec ⟨9, [a, b]⟩ ⟨9, [b, b]⟩ (hf9 a hfa hna) (hf9 b hfb hnb)).rounds
    rw [hgu] at eu
    have esx := Size_fit hfa
    have esy := Size_fit hfb
    have ecv := Cov_of hfa hfb
    rw [← hcv] at ecv
    have hlaw1 : g = true → cv = true ∧ (nodes b).length ≤ (nodes a).length := fun h => by
      rw [hg] at h
      exact ⟨by rw [hcv]; exact gt_cov h, gt_len h⟩
    have hlaw2 : g = false → cv = true → (nodes a).length ≤ (nodes b).length := fun h h2 => by
      rw [hg] at h
      rw [hcv] at h2
      exact cov_small h2 h
    have FG := Aside0.mk (And.intro eg (And.intro esx (And.intro esy ecv)))
    have FR := Aside0.mk (And.intro ea (And.intro eb (And.intro er eu)))
    have FL := Aside0.mk (And.intro hlaw1 hlaw2)
    have FN := Aside0.mk hn
    clear hfa hfb har hbr hsml hfar hfbr hg hcv hgr hgu hf9 eg ea eb er eu esx esy ecv hlaw1 hlaw2 hoka hokb hok hna hnb hn hbA hbB hC0 hC1 hx0' hx1' hb3 hg0 hg1 hh0 hh1 hx0 hx1 hy0 hy1 hB1 hB2 hb1 hb2 hF hge0 hge1
    simp only [List.setIfInBounds_toArray, List.set_cons_zero, List.set_cons_succ]
    have k00 : w3.cell? ⟨h0, 0, none⟩ = some (.int .i64 a.f0) := (blk_cell HX0.out 0).trans rfl
    have k01 : w3.cell? ⟨h0, 1, none⟩ = some (.slice X0 a.f1.length q0) := (blk_cell HX0.out 1).trans rfl
    have k10 : w3.cell? ⟨h1, 0, none⟩ = some (.int .i64 b.f0) := (blk_cell HX1.out 0).trans rfl
    have k11 : w3.cell? ⟨h1, 1, none⟩ = some (.slice X1 b.f1.length q1) := (blk_cell HX1.out 1).trans rfl
    go_wp2_with (go_at_call 41; refine (kbo_Greater.calls kg _ _ _ a.f1 _ _ _ b.f1 g w3 HC0.out hq0 HC1.out hq1 FG.out.1).mono ?_; rintro e w4 ⟨rfl, hb4⟩; have HB4 := Aside0.mk hb4; clear hb4)
    have D0 := Aside0.mk (Kd.C_below HC0.out HB4.out)
    have D1 := Aside0.mk (Kd.C_below HC1.out HB4.out)
    have Y0 := Aside0.mk (blk_below HX0.out HB4.out)
    have Y1 := Aside0.mk (blk_below HX1.out HB4.out)
    have HB := Aside0.mk (HB3.out.trans (HB4.out.mono HB3.out.size))
    clear HC0 HC1 HX0 HX1 HB3 HB4 k00 k01 k10 k11
    have hsx : ∀ w1, Below w4.heap.size w4 w1 → Calls Try.prog 34 #[.agg #[.int .i64 a.f0, .slice X0 a.f1.length q0]] w1 fun e w2 => e = .returned (.int .i64 ((nodes a).length : Int)) ∧ Below w1.heap.size w1 w2 := fun w1 hb => term_Size.calls _ _ _ a.f1 _ w1 (Kd.C_below D0.out hb) hq0 FG.out.2.1
    have hsy : ∀ w1, Below w4.heap.size w4 w1 → Calls Try.prog 34 #[.agg #[.int .i64 b.f0, .slice X1 b.f1.length q1]] w1 fun e w2 => e = .returned (.int .i64 ((nodes b).length : Int)) ∧ Below w1.heap.size w1 w2 := fun w1 hb => term_Size.calls _ _ _ b.f1 _ w1 (Kd.C_below D1.out hb) hq1 FG.out.2.2.1
    have hcc : ∀ w1, Below w4.heap.size w4 w1 → Calls Try.prog 45 #[.agg #[.int .i64 a.f0, .slice X0 a.f1.length q0], .agg #[.int .i64 b.f0, .slice X1 b.f1.length q1]] w1 fun e w2 => e = .returned (.bool cv) ∧ Below w1.heap.size w1 w2 := fun w1 hb => kbo_Covers.calls _ _ _ a.f1 _ _ _ b.f1 _ w1 (Kd.C_below D0.out hb) hq0 (Kd.C_below D1.out hb) hq1 FG.out.2.2.2
    have SX := Aside0.mk hsx
    have SY := Aside0.mk hsy
    have SC := Aside0.mk hcc
    clear hsx hsy hcc
    refine KboSizes_r7 (ga := h0) (gb := h1) (c := cv) (nx := (nodes a).length) (ny := (nodes b).length) (by kernel_rfl) rfl rfl Y0.out rfl Y1.out SX.out SY.out SC.out FL.out.1 FL.out.2 ?_
    intro v w5 hb5 hv29
    simp only [layL, Nat.reduceAdd, List.setIfInBounds_toArray, List.set_cons_zero, List.set_cons_succ, hv29]
    clear hv29
    generalize v 0 = t0
    generalize v 1 = t1
    generalize v 2 = t2
    generalize v 3 = t3
    generalize v 4 = t4
    generalize v 5 = t5
    generalize v 6 = t6
    generalize v 7 = t7
    generalize v 8 = t8
    generalize v 9 = t9
    generalize v 10 = t10
    generalize v 11 = t11
    generalize v 12 = t12
    generalize v 13 = t13
    generalize v 14 = t14
    generalize v 15 = t15
    generalize v 16 = t16
    generalize v 17 = t17
    generalize v 18 = t18
    generalize v 19 = t19
    generalize v 20 = t20
    generalize v 21 = t21
    generalize v 22 = t22
    generalize v 23 = t23
    generalize v 24 = t24
    generalize v 25 = t25
    generalize v 26 = t26
    generalize v 27 = t27
    generalize v 28 = t28
    clear v
    try clear hl
    have E0 := Aside0.mk (Kd.C_below D0.out hb5)
    have E1 := Aside0.mk (Kd.C_below D1.out hb5)
    have Z0 := Aside0.mk (blk_below Y0.out hb5)
    have Z1 := Aside0.mk (blk_below Y1.out hb5)
    have HB5 := Aside0.mk (HB.out.trans (hb5.mono HB.out.size))
    clear hb5 D0 D1 Y0 Y1 HB SX SY SC
    clear FL FG
    go_wp2
    have b9 := heap_alloc_new w5 (.cells #[.int .i64 9, .slice none 0 0] 30)
    have b9' : (w5.alloc (.cells #[.int .i64 9, .slice none 0 0] 30)).heap.size = w5.heap.size + 1 := World.size_alloc _ _
    obtain ⟨w6, hw6⟩ : ∃ x, x = (w5.alloc (.cells #[.int .i64 9, .slice none 0 0] 30)).alloc (.cells #[.int .i64 9, .slice none 0 0] 30) := ⟨_, rfl⟩
    have bU : w6.heap[w5.heap.size]? = some (.cells #[.int .i64 9, .slice none 0 0] 30 (0, 0)) := by rw [hw6]; exact blk_alloc b9 _
    have bD : w6.heap[w5.heap.size + 1]? = some (.cells #[.int .i64 9, .slice none 0 0] 30 (0, 0)) := by rw [hw6, ← b9']; exact heap_alloc_new _ _
    have hb56 : Below w5.heap.size w5 w6 := by rw [hw6]; exact below_alloc (below_alloc (Below.refl _ _) _) _
    rw [← hw6]
    clear hw6 b9 b9'
    refine KboSizes_r11 (N := w5.heap.size) (ga := h0) (gb := h1) (gu := w5.heap.size) (gd := w5.heap.size + 1) (xf := .int .i64 a.f0) (xl := .slice X0 a.f1.length q0) (yf := .int .i64 b.f0) (yl := .slice X1 b.f1.length q1) (by kernel_rfl) rfl rfl rfl (blk_below Z0.out hb56) rfl (blk_below Z1.out hb56) hb56.size (blk_lt Z0.out) (blk_lt Z1.out) (Nat.le_refl _) (Nat.le_succ _) (Nat.ne_of_lt (Nat.lt_succ_self _)) bU bD ?_
    intro v w7 g2 g5 hb7 hu hd hg2 hg5
    simp only [layL, Nat.reduceAdd, List.setIfInBounds_toArray, List.set_cons_zero, List.set_cons_succ]
    generalize v 0 = s0
    generalize v 1 = s1
    generalize v 2 = s2
    generalize v 3 = s3
    generalize v 4 = s4
    generalize v 5 = s5
    generalize v 6 = s6
    generalize v 7 = s7
    generalize v 8 = s8
    generalize v 9 = s9
    clear v bU bD
    have hb57 := hb56.trans (hb7.mono (Nat.le_refl _))
    have HB7 := Aside0.mk (HB5.out.trans (hb57.mono HB5.out.size))
    have F0 := Kd.C_below E0.out hb57
    have F1 := Kd.C_below E1.out hb57
    have CU := C2 k30 rfl (K30 F0 hq0) (K30 F1 hq1) hg2
    have CD := C2 k30 rfl (K30 F1 hq1) (K30 F1 hq1) hg5
    go_wp2
    refine KboSizes_r12 (ga := h0) (gb := h1) (gu := w5.heap.size) (gd := w5.heap.size + 1) (g2 := g2) (g5 := g5) (f := n) (rf := ar.f0) (sf := br.f0) (rs := ar.f1) (ss := br.f1) (by kernel_rfl) rfl rfl rfl (blk_below Z0.out hb57) rfl (blk_below Z1.out hb57) rfl hu rfl hd ?_ ?_ ?_ FN.out ?_ ?_
    · intro w1 hb; exact (subst_Rename.calls ka _ _ _ a.f1 _ _ _ w1 (Kd.C_below F0 hb) hq0 FR.out.1).mono (fun e w2 ⟨v1, h1, h2, h3⟩ => ⟨_, h1, TermTold.of h2, h3⟩)
    · intro w1 hb; exact (subst_Rename.calls kb _ _ _ b.f1 _ _ _ w1 (Kd.C_below F1 hb) hq1 FR.out.2.1).mono (fun e w2 ⟨v1, h1, h2, h3⟩ => ⟨_, h1, TermTold.of h2, h3⟩)
    · intro w1 hb; exact kbo_Greater.calls ku _ _ _ [a, b] _ _ _ [b, b] g w1 (Kd.C_below CU hb) (Nat.le_refl _) (Kd.C_below CD hb) (Nat.le_refl _) FR.out.2.2.2
    · intro w1 A1 B1 c1 d1 hb hl1 hC1 hl2 hC2; exact kbo_Greater.calls kr _ _ _ ar.f1 _ _ _ br.f1 g w1 hC1 hl1 hC2 hl2 FR.out.2.2.1
    intro v w8 hb8 hv18
    simp only [layL, Nat.reduceAdd, List.setIfInBounds_toArray, List.set_cons_zero, List.set_cons_succ, hv18]
    clear hv18
    generalize v 0 = r0
    generalize v 1 = r1
    generalize v 2 = r2
    generalize v 3 = r3
    generalize v 4 = r4
    generalize v 5 = r5
    generalize v 6 = r6
    generalize v 7 = r7
    generalize v 8 = r8
    generalize v 9 = r9
    generalize v 10 = r10
    generalize v 11 = r11
    generalize v 12 = r12
    generalize v 13 = r13
    generalize v 14 = r14
    generalize v 15 = r15
    generalize v 16 = r16
    generalize v 17 = r17
    have HB8 := Aside0.mk (HB7.out.trans (hb8.mono HB7.out.size))
    clear v hb8 F0 F1 CU CD hu hd hg2 hg5 hb57 hb7 hb56
    go_wp2
    go_ret
    exact ⟨rfl, HB8.out⟩
end Go.Proofs.Ytpfddihcikiofaa.P
end

section
namespace Go.Proofs.Ytpfddihcikiofaa.kboSizes
open Go.ChangeShapes Go.WideShapes Go.ChangeAt Go.RowKit
set_option linter.unusedVariables false
theorem own : ownKnob Try.prog.godebug = none := by kernel_rfl
theorem laidOut : laidOutB Try.prog = true := by kernel_rfl
set_option maxRecDepth 100000 in
theorem lifted (os : Os) (started : os.Started) (H : Type) (enc : TypeId × Value → H) :
    ReturnsInHanded {} Try.checked os 10 .any (Rows.kboSizesSpec.pre6 enc Try.prog Try.f10 Rows.kboSizesRow.domain false) (Rows.kboSizesSpec.post enc Try.prog Try.f10 false true false false) := by
  refine returnsInHanded_of_change_sized (C := Try.checked) own started (by kernel_rfl) Try.func10
    (ChangeSpec.witness6 (enc := enc) (C := Try.checked) false ⟨#[], #[.agg #[.int .i64 0, .slice none 0 0], .agg #[.int .i64 0, .slice none 0 0], .int .u8 0], []⟩ 8 (by kernel_rfl) (by kernel_rfl) (by kernel_rfl) (by kernel_rfl)) ?_
  intro W base args ds gs before hval0 hW hcnd hsz0 _
  have hval : ∀ (j : Nat) t v, Try.f10.params[j]? = some t → args[j]? = some v → Value.okWide Try.prog W .any base t v := hval0
  have hW' := hW
  obtain ⟨p, q, hA0, hV, rfl, hfz, hnd⟩ := hW
  have hA : DataW.TrodAll enc Try.prog W 0 (fun _ => true) true Try.f10.params.toList args.toList ds p := hA0
  rw [Try.params10] at hA hval
  obtain ⟨v0, vs0, d0, ds0, p0, q0, hargs, rfl, rfl, h0, r0⟩ := trodAll_cons hA
  obtain ⟨v1, vs1, d1, ds1, p1, q1, rfl, rfl, rfl, h1, r1⟩ := trodAll_cons r0
  obtain ⟨v2, vs2, d2, ds2, p2, q2, rfl, rfl, rfl, h2, r2⟩ := trodAll_cons r1
  obtain ⟨rfl, rfl, rfl⟩ := trodAll_nil r2
  obtain rfl : args = #[v0, v1, v2] := by cases args; simp_all
  obtain ⟨rfl, rfl⟩ := trodVars_none hV
  have k0 := h0
  have lt0 : ∀ x ∈ p0, x.block < W.heap.size := by obtain ⟨m, hm⟩ := k0; exact DataW.trod_lt m _ _ _ hm
  obtain ⟨t0, A0, c0, rfl, hc0, hC0, hw0⟩ := P.open_T (hval 0 24 v0 rfl rfl) h0
  have k1 := h1
  have lt1 : ∀ x ∈ p1, x.block < W.heap.size := by obtain ⟨m, hm⟩ := k1; exact DataW.trod_lt m _ _ _ hm
  obtain ⟨t1, A1, c1, rfl, hc1, hC1, hw1⟩ := P.open_T (hval 1 24 v1 rfl rfl) h1
  obtain ⟨a2, rfl, rfl, rfl, w2⟩ := open_int Try.underlying5 (hval 2 5 v2 rfl rfl) h2
  clear hA0 hval0 hsz0
  refine (P.KboSizes_walk t0 t1 a2 A0 c0 A1 c1 W (by have := w2; simp [Lit.wf, IntKind.min, IntKind.max, IntKind.signed, IntKind.bits] at this; omega) hC0 hc0 hC1 hc1).mono fun e W' ⟨he, bel⟩ => ?_
  subst he
  exact ⟨_, rfl, _, _, _, [], _, [], hW', trodAll_mk1 (shut_bool Try.underlying4 _), (trodAll_cons_mk (Below.trod laidOut (by kernel_rfl) (of_decide_eq_true (by kernel_rfl)) k0 bel lt0) (trodAll_cons_mk (Below.trod laidOut (by kernel_rfl) (of_decide_eq_true (by kernel_rfl)) k1 bel lt1) (trodAll_cons_mk (shut_int Try.underlying5 w2) trodAll_mk0))), rfl, bel.frame _, fun h => by cases h⟩
theorem over : Rows.kboSizesRow.holds Try.pinned (OpenSpec.ofChange Rows.kboSizesSpec) :=
  OpenClaim.holds_of_wide 10 Try.f10 rfl rfl rfl rfl rfl rfl rfl ⟨rfl, rfl, rfl, rfl, rfl⟩ rfl rfl rfl rfl rfl (by kernel_rfl) Try.func10 (by kernel_rfl)
    (of_decide_eq_true (by kernel_rfl)) (by unfold Func.isWrapper; first | (rw [if_pos (by decide +kernel)]; kernel_rfl) | (rw [if_neg (by decide +kernel)]; exact ⟨rfl, rfl⟩))
    (fun os started H enc _ => lifted os started H enc)
end Go.Proofs.Ytpfddihcikiofaa.kboSizes
namespace Go.Proofs.Ytpfddihcikiofaa
theorem kboSizes_holds : Rows.KboSizesSaid := kboSizes.over
#print axioms kboSizes_holds
end Go.Proofs.Ytpfddihcikiofaa
end
