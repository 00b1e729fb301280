/- term.Size: how many places a tree has. -/
import Derived.Test.YtpfddihcikiofaaGRange
namespace Go.Proofs.Ytpfddihcikiofaa.P
open Go.RowKit Go.Shelf Go.Proofs.YtpfddihcikiofaaW.PrintWords Go.Proofs.YtpfddihcikiofaaW.PrintLast Go.Proofs.YtpfddihcikiofaaW.PrintMore
set_option linter.unusedVariables false
set_option linter.unusedSimpArgs false
attribute [local go_sem] Oper.semAt_some

def term_Size.f (a0_0 : Int) (l0_1 : List S30) : Option Int := if (flatP [] ⟨a0_0, l0_1⟩).length ≤ 1099511627776 then some ((flatP [] ⟨a0_0, l0_1⟩).length : Int) else none

set_option maxRecDepth 100000 in
set_option maxHeartbeats 2000000 in
theorem term_Size.calls (a0_0 : Int) (A0_1 : Option Addr) (c0_1 : Nat) (l0_1 : List S30) (r : Int) (w : World) (hr0_1 : Kd.C k30 w A0_1 l0_1.length l0_1) (hc0_1 : l0_1.length ≤ c0_1) (h : term_Size.f a0_0 l0_1 = some r) :
    Calls Try.prog 34 #[.agg #[.int .i64 a0_0, .slice A0_1 l0_1.length c0_1]] w fun e w' => e = .returned (.int .i64 r) ∧ Below w.heap.size w w' := by
  unfold term_Size.f at h
  by_cases hM : (flatP [] ⟨a0_0, l0_1⟩).length ≤ 1099511627776
  · rw [if_pos hM] at h
    obtain rfl := Option.some.inj h
    clear h
    refine (callsIn_wide (n := 9)).1 ?_
    refine callsIn_of_wp_marks Try.func34 rfl trivial ?_ rfl
    simp only [Try.ntmps34, List.size_toArray, List.length_cons, List.length_nil, Nat.reduceAdd, Nat.reduceSub, Array.replicate_succ, Array.replicate_zero, List.push_toArray, List.append_toArray, List.nil_append, List.cons_append]
    gi_wp2_with (refine ⟨trivial, ?_⟩; (try refine ⟨wide_any _, ?_⟩); gi_at_call 72; refine (callsIn_wide.2 (all_any _ _ _)).mono ?_; rintro e w' ⟨rfl, rfl⟩)
    have hbx : (((w.alloc (.cells #[.int .i64 a0_0, .slice A0_1 l0_1.length c0_1] 30)).alloc (.cells #[.int .i64 0] 3)).alloc (.cells #[.int .i64 a0_0, .slice A0_1 l0_1.length c0_1] 30)).heap[w.heap.size + 1]? = some (.cells #[.int .i64 0] 3 (0, 0)) := by
      have := heap_alloc_new (w.alloc (.cells #[.int .i64 a0_0, .slice A0_1 l0_1.length c0_1] 30)) (.cells #[.int .i64 0] 3)
      rw [World.size_alloc] at this
      exact blk_alloc this _
    have hbB : (((w.alloc (.cells #[.int .i64 a0_0, .slice A0_1 l0_1.length c0_1] 30)).alloc (.cells #[.int .i64 0] 3)).alloc (.cells #[.int .i64 a0_0, .slice A0_1 l0_1.length c0_1] 30)).heap[w.heap.size + 1 + 1]? = some (.cells #[.int .i64 a0_0, .slice A0_1 l0_1.length c0_1] 30 (0, 0)) := by
      have := heap_alloc_new ((w.alloc (.cells #[.int .i64 a0_0, .slice A0_1 l0_1.length c0_1] 30)).alloc (.cells #[.int .i64 0] 3)) (.cells #[.int .i64 a0_0, .slice A0_1 l0_1.length c0_1] 30)
      rwa [World.size_alloc, World.size_alloc] at this
    have hb2 : Below w.heap.size w (((w.alloc (.cells #[.int .i64 a0_0, .slice A0_1 l0_1.length c0_1] 30)).alloc (.cells #[.int .i64 0] 3)).alloc (.cells #[.int .i64 a0_0, .slice A0_1 l0_1.length c0_1] 30)) := below_alloc (below_alloc (below_alloc (Below.refl _ _) _) _) _
    generalize ((w.alloc (.cells #[.int .i64 a0_0, .slice A0_1 l0_1.length c0_1] 30)).alloc (.cells #[.int .i64 0] 3)).alloc (.cells #[.int .i64 a0_0, .slice A0_1 l0_1.length c0_1] 30) = w2 at hbx hbB hb2 ⊢
    have hF : Kd.F k30 w2 (fun k => ¬ k = w.heap.size + 1) A0_1 l0_1.length l0_1 := Kd.F_mono (Kd.F_below (Kd.C_F k30_heap hr0_1) hb2) (fun k hk h => by omega)
    refine range_all (t := ⟨a0_0, l0_1⟩) (n := 9) rfl (fun k => k = w.heap.size + 1) A0_1 c0_1 hbB hF hc0_1 hM
      (fun S pre W => S = (fun k => k = w.heap.size + 1) ∧ W.heap[w.heap.size + 1]? = some (.cells #[.int .i64 (pre.length : Int)] 3 (0, 0)))
      ?hIc ?hIs ⟨rfl, hbx⟩ (fun S n0 p s A c As cs a W => a = { tmps := #[.agg #[.int .i64 a0_0, .slice A0_1 l0_1.length c0_1], .pointer (some ⟨w.heap.size, 0, none⟩), .int .i64 0, .pointer (some ⟨w.heap.size + 1, 0, none⟩), .agg #[.int .i64 a0_0, .slice A0_1 l0_1.length c0_1], .func (.func 103) #[] #[.pointer (some ⟨w.heap.size + 1 + 1, 0, none⟩)], .slice A p.length c, .agg #[.int .i64 s.f0, .slice As s.f1.length cs], undef, undef, undef], defers := [] }) ?hAx ?assign ?body ?done
    case hIc =>
      rintro S pre W ⟨rfl, hb⟩ k rfl
      exact ⟨_, hb, rfl⟩
    case hIs =>
      rintro S pre W W' ⟨rfl, hb⟩ hs hk
      exact ⟨rfl, (hk _ rfl (blk_lt hb)).trans hb⟩
    case hAx =>
      intro S n0 p s A c As cs a₁ W W' h _ _
      exact h
    case assign =>
      intro l m S p s A c As cs W K hK
      gi_wp2
      exact hK _ _ (Below.refl _ _) (by rfl)
    case body =>
      rintro l m S n0 pre p s A c As cs a₁ W ⟨rfl, hb⟩ hn0 hle hlen hpm hp hpc hs hsc rfl
      have hc0 : W.cell? ⟨w.heap.size + 1, 0, none⟩ = some (.int .i64 (pre.length : Int)) := (blk_cell hb 0).trans rfl
      have hf0 := blk_frozen hb 0
      have hpl : (pre.length : Int) < 1099511627776 := by omega
      have hbz := Aside0.mk hb
      clear hp hs hb
      gi_wp2
      refine ⟨_, ⟨rfl, ?_⟩, Keeps.setCell W _ _, fun k hk => .inl hk⟩
      have := blk_put hbz.out 0 (.int .i64 ((pre.length : Int) + 1)) rfl
      simpa using this
    case done =>
      rintro D S' W' ⟨rfl, hb⟩ hk _ hD hle
      have hc0 : W'.cell? ⟨w.heap.size + 1, 0, none⟩ = some (.int .i64 ((flatP [] ⟨a0_0, l0_1⟩).length : Int)) := (blk_cell hb 0).trans rfl
      have hkz := Aside0.mk hk
      have hDz := Aside0.mk hD
      clear hk hD hb
      gi_wp2
      refine ⟨by simp, .inl ⟨_, _, rfl, run_takeDeferred hDz.out, ?_⟩⟩
      refine ⟨_, results_tmp rfl _ _ _, rfl, ?_⟩
      have h1 := hkz.out.toBelow hb2.size (fun b hb => by omega)
      have h2 := hkz.out.size
      have h3 := hb2.size
      exact below_put (hb2.trans h1) (by omega) (by omega) _
  · rw [if_neg hM] at h
    cases h
end Go.Proofs.Ytpfddihcikiofaa.P
