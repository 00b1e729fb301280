/- term.Count: at how many places of a tree a symbol or variable stands. -/
import Derived.Test.YtpfddihcikiofaaGRange
namespace Go.Proofs.Ytpfddihcikiofaa.P
open Go.RowKit Go.Shelf Go.Proofs.YtpfddihcikiofaaW.PrintWords Go.Proofs.YtpfddihcikiofaaW.PrintLast Go.Proofs.YtpfddihcikiofaaW.PrintMore
set_option linter.unusedVariables false
set_option linter.unusedSimpArgs false
attribute [local go_sem] Oper.semAt_some

def countP (f : Int) (l : List (List Int × S30)) : Nat := (l.filter fun x => x.2.f0 == f).length
theorem countP_snoc (f : Int) (l : List (List Int × S30)) (p : List Int) (s : S30) : countP f (l ++ [(p, s)]) = countP f l + if s.f0 == f then 1 else 0 := by
  unfold countP
  rw [List.filter_append, List.length_append]
  by_cases h : (s.f0 == f) = true
  · simp [h]
  · simp [h]
theorem countP_le (f : Int) (l : List (List Int × S30)) : countP f l ≤ l.length := List.length_filter_le _ _
def term_Count.f (a0_0 : Int) (l0_1 : List S30) (a1 : Int) : Option Int := if (flatP [] ⟨a0_0, l0_1⟩).length ≤ 1099511627776 then some (countP a1 (flatP [] ⟨a0_0, l0_1⟩) : Int) else none

set_option maxRecDepth 100000 in
set_option maxHeartbeats 2000000 in
theorem term_Count.calls (a0_0 : Int) (A0_1 : Option Addr) (c0_1 : Nat) (l0_1 : List S30) (a1 : Int) (r : Int) (w : World) (hr0_1 : Kd.C k30 w A0_1 l0_1.length l0_1) (hc0_1 : l0_1.length ≤ c0_1) (h : term_Count.f a0_0 l0_1 a1 = some r) :
    Calls Try.prog 35 #[.agg #[.int .i64 a0_0, .slice A0_1 l0_1.length c0_1], .int .i64 a1] w fun e w' => e = .returned (.int .i64 r) ∧ Below w.heap.size w w' := by
  unfold term_Count.f at h
  by_cases hM : (flatP [] ⟨a0_0, l0_1⟩).length ≤ 1099511627776
  · rw [if_pos hM] at h
    obtain rfl := Option.some.inj h
    clear h
    refine (callsIn_wide (n := 9)).1 ?_
    refine callsIn_of_wp_marks Try.func35 rfl trivial ?_ rfl
    simp only [Try.ntmps35, List.size_toArray, List.length_cons, List.length_nil, Nat.reduceAdd, Nat.reduceSub, Array.replicate_succ, Array.replicate_zero, List.push_toArray, List.append_toArray, List.nil_append, List.cons_append]
    gi_wp2_with (refine ⟨trivial, ?_⟩; (try refine ⟨wide_any _, ?_⟩); gi_at_call 72; refine (callsIn_wide.2 (all_any _ _ _)).mono ?_; rintro e w' ⟨rfl, rfl⟩)
    obtain ⟨W3, hW3⟩ : ∃ W, W = (((w.alloc (.cells #[.int .i64 a0_0, .slice A0_1 l0_1.length c0_1] 30)).alloc (.cells #[.int .i64 a1] 3)).alloc (.cells #[.int .i64 0] 3)).alloc (.cells #[.int .i64 a0_0, .slice A0_1 l0_1.length c0_1] 30) := ⟨_, rfl⟩
    have hbf : W3.heap[w.heap.size + 1]? = some (.cells #[.int .i64 a1] 3 (0, 0)) := by
      have := heap_alloc_new (w.alloc (.cells #[.int .i64 a0_0, .slice A0_1 l0_1.length c0_1] 30)) (.cells #[.int .i64 a1] 3)
      rw [World.size_alloc] at this
      rw [hW3]
      exact blk_alloc (blk_alloc this _) _
    have hbx : W3.heap[w.heap.size + 1 + 1]? = some (.cells #[.int .i64 0] 3 (0, 0)) := by
      have := heap_alloc_new ((w.alloc (.cells #[.int .i64 a0_0, .slice A0_1 l0_1.length c0_1] 30)).alloc (.cells #[.int .i64 a1] 3)) (.cells #[.int .i64 0] 3)
      rw [World.size_alloc, World.size_alloc] at this
      rw [hW3]
      exact blk_alloc this _
    have hbB : W3.heap[w.heap.size + 1 + 1 + 1]? = some (.cells #[.int .i64 a0_0, .slice A0_1 l0_1.length c0_1] 30 (0, 0)) := by
      have := heap_alloc_new (((w.alloc (.cells #[.int .i64 a0_0, .slice A0_1 l0_1.length c0_1] 30)).alloc (.cells #[.int .i64 a1] 3)).alloc (.cells #[.int .i64 0] 3)) (.cells #[.int .i64 a0_0, .slice A0_1 l0_1.length c0_1] 30)
      rw [World.size_alloc, World.size_alloc, World.size_alloc] at this
      rw [hW3]
      exact this
    have hb2 : Below w.heap.size w W3 := by rw [hW3]; exact below_alloc (below_alloc (below_alloc (below_alloc (Below.refl _ _) _) _) _) _
    rw [← hW3]
    clear hW3
    have hF : Kd.F k30 W3 (fun k => ¬ (k = w.heap.size + 1 ∨ k = w.heap.size + 1 + 1)) A0_1 l0_1.length l0_1 := Kd.F_mono (Kd.F_below (Kd.C_F k30_heap hr0_1) hb2) (fun k hk h => by omega)
    refine range_all (t := ⟨a0_0, l0_1⟩) (n := 9) rfl (fun k => k = w.heap.size + 1 ∨ k = w.heap.size + 1 + 1) A0_1 c0_1 hbB hF hc0_1 hM
      (fun S pre W => S = (fun k => k = w.heap.size + 1 ∨ k = w.heap.size + 1 + 1) ∧ W.heap[w.heap.size + 1]? = some (.cells #[.int .i64 a1] 3 (0, 0)) ∧ W.heap[w.heap.size + 1 + 1]? = some (.cells #[.int .i64 (countP a1 pre : Int)] 3 (0, 0)))
      ?hIc ?hIs ⟨rfl, hbf, hbx⟩ (fun S n0 p s A c As cs a W => ∃ Bx, n0 ≤ Bx ∧ W.heap[Bx]? = some (.cells #[.int .i64 s.f0, .slice As s.f1.length cs] 30 (0, 0)) ∧ a = { tmps := #[.agg #[.int .i64 a0_0, .slice A0_1 l0_1.length c0_1], .int .i64 a1, .pointer (some ⟨w.heap.size, 0, none⟩), .pointer (some ⟨w.heap.size + 1, 0, none⟩), .int .i64 0, .pointer (some ⟨w.heap.size + 1 + 1, 0, none⟩), undef, .pointer (some ⟨Bx, 0, none⟩), .agg #[.int .i64 a0_0, .slice A0_1 l0_1.length c0_1], .func (.func 103) #[] #[.pointer (some ⟨w.heap.size + 1 + 1 + 1, 0, none⟩)], .slice A p.length c, .agg #[.int .i64 s.f0, .slice As s.f1.length cs], undef, undef, undef, undef, undef, undef, undef], defers := [] }) ?hAx ?assign ?body ?done
    case hIc =>
      rintro S pre W ⟨rfl, hf, hb⟩ k (rfl | rfl)
      · exact ⟨_, hf, rfl⟩
      · exact ⟨_, hb, rfl⟩
    case hIs =>
      rintro S pre W W' ⟨rfl, hf, hb⟩ hs hk
      exact ⟨rfl, (hk _ (.inl rfl) (blk_lt hf)).trans hf, (hk _ (.inr rfl) (blk_lt hb)).trans hb⟩
    case hAx =>
      rintro S n0 p s A c As cs a₁ W W' ⟨Bx, hBx, hb, h⟩ _ hk
      exact ⟨Bx, hBx, (hk _ hBx (blk_lt hb)).trans hb, h⟩
    case assign =>
      intro l m S p s A c As cs W K hK
      gi_wp2
      refine hK _ _ (below_alloc (Below.refl _ _) _) ⟨W.heap.size, Nat.le_refl _, heap_alloc_new _ _, rfl⟩
    case body =>
      rintro l m S n0 pre p s A c As cs a₁ W ⟨rfl, hfb, hb⟩ hn0 hle hlen hpm hp hpc hs hsc ⟨Bx, hBx, hbx, rfl⟩
      have hc0 : W.cell? ⟨w.heap.size + 1 + 1, 0, none⟩ = some (.int .i64 (countP a1 pre : Int)) := (blk_cell hb 0).trans rfl
      have hf0 := blk_frozen hb 0
      have hc1 : W.cell? ⟨w.heap.size + 1, 0, none⟩ = some (.int .i64 a1) := (blk_cell hfb 0).trans rfl
      have hc2 : W.cell? ⟨Bx, 0, none⟩ = some (.int .i64 s.f0) := (blk_cell hbx 0).trans rfl
      have hcl := countP_le a1 pre
      have hpl : (countP a1 pre : Int) < 1099511627776 := by omega
      have hbz := Aside0.mk hb
      have hfz := Aside0.mk hfb
      have hsn := Aside0.mk (countP_snoc a1 pre p s)
      clear hp hs hb hfb hbx hcl
      by_cases heq : (s.f0 == a1) = true
      · gi_wp2
        refine ⟨_, ⟨rfl, blk_far hfz.out (p := ⟨w.heap.size + 1 + 1, 0, none⟩) (by show w.heap.size + 1 ≠ w.heap.size + 1 + 1; omega) _, ?_⟩, (Keeps.setCell W _ _).mono (fun k hk => .inr hk), fun k hk => .inl hk⟩
        have := blk_put hbz.out 0 (.int .i64 ((countP a1 pre : Int) + 1)) rfl
        rw [hsn.out, if_pos heq]
        simpa using this
      · have heq' : (s.f0 == a1) = false := by simpa using heq
        clear heq
        gi_wp2
        refine ⟨_, ⟨rfl, hfz.out, ?_⟩, Keeps.refl W _, fun k hk => .inl hk⟩
        rw [hsn.out, heq']
        simpa using hbz.out
    case done =>
      rintro D S' W' ⟨rfl, _, hb⟩ hk _ hD hle
      have hc0 : W'.cell? ⟨w.heap.size + 1 + 1, 0, none⟩ = some (.int .i64 (countP a1 (flatP [] ⟨a0_0, l0_1⟩) : Int)) := (blk_cell hb 0).trans rfl
      have hkz := Aside0.mk hk
      have hDz := Aside0.mk hD
      clear hk hD hb
      gi_wp2
      refine ⟨by simp, .inl ⟨_, _, rfl, run_takeDeferred hDz.out, ?_⟩⟩
      refine ⟨_, results_tmp rfl _ _ _, rfl, ?_⟩
      have h1 := hkz.out.toBelow hb2.size (fun b hb => by omega)
      have h2 := hkz.out.size
      have h3 := hb2.size
      exact below_put (hb2.trans h1) (by omega) (by omega) _
  · rw [if_neg hM] at h
    cases h
end Go.Proofs.Ytpfddihcikiofaa.P
