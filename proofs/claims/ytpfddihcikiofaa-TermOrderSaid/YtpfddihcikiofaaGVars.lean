/- term.Vars: the numbers of a tree's variables, as they first stand. -/
import Derived.Maps.OwnIn
import Derived.Deep.DeepMust
import Derived.Test.YtpfddihcikiofaaGRange
import Derived.Test.YtpfddihcikiofaaPxSlicesContainsIntInt
namespace Go.Proofs.Ytpfddihcikiofaa.P
open Go.RowKit Go.Shelf Go.Proofs.YtpfddihcikiofaaW.PrintWords Go.Proofs.YtpfddihcikiofaaW.PrintLast Go.Proofs.YtpfddihcikiofaaW.PrintMore
set_option linter.unusedVariables false
set_option linter.unusedSimpArgs false
attribute [local go_sem] Oper.semAt_some

theorem index_l0 (l : List Int) (a : Int) (hl : l.length < 4611686018427387904) (d : Nat) : ∀ (k i : Nat), i + d = l.length → d < k → a ∉ l.take i →
    ∃ r, slices_Index_int_int.l0 k l a (l.length : Int) (i : Int) = some r ∧ (decide (r ≥ 0) = decide (a ∈ l)) := by
  induction d with
  | zero =>
    intro k i hi hk hn
    obtain ⟨k, rfl⟩ : ∃ m, k = m + 1 := ⟨k - 1, by omega⟩
    refine ⟨-1, by simp only [slices_Index_int_int.l0]; rw [if_neg (by omega)], ?_⟩
    rw [List.take_of_length_le (by omega)] at hn
    simp [hn]
  | succ d ih =>
    intro k i hi hk hn
    obtain ⟨k, rfl⟩ : ∃ m, k = m + 1 := ⟨k - 1, by omega⟩
    have hlt : i < l.length := by omega
    have hrd : rd l (i : Int) = l[i] := by simp [rd, List.getD_eq_getElem?_getD, hlt]
    by_cases h : a = l[i]
    · refine ⟨i, by simp only [slices_Index_int_int.l0]; rw [if_pos (by omega), if_pos (by omega), if_pos (by omega), hrd, if_pos h], ?_⟩
      have : a ∈ l := by rw [h]; exact List.getElem_mem hlt
      simp [this]
    · obtain ⟨r, hr, h2⟩ := ih k (i + 1) (by omega) (by omega) (by rw [List.take_succ_eq_append_getElem hlt, List.mem_append, not_or]; exact ⟨hn, by simpa using h⟩)
      refine ⟨r, ?_, h2⟩
      simp only [slices_Index_int_int.l0]
      rw [if_pos (by omega), if_pos (by omega), if_pos (by omega), hrd, if_neg h, show wrap64 ((i : Int) + 1) = ((i + 1 : Nat) : Int) from by unfold wrap64; omega]
      exact hr
theorem contains_f (l : List Int) (a : Int) (hl : l.length < 4611686018427387904) : slices_Contains_int_int.f (l.length + 1) l a = some (decide (a ∈ l)) := by
  obtain ⟨r, hr, h2⟩ := index_l0 l a hl l.length (l.length + 1) 0 (by omega) (by omega) (by simp)
  unfold slices_Contains_int_int.f slices_Index_int_int.f
  rw [show ((0 : Nat) : Int) = 0 from rfl] at hr
  rw [hr]
  simp only [Option.bind_some, h2]

/-- One place more. -/
def varStep (out : List Int) (x : List Int × S30) : List Int := if x.2.f0 < 0 then (if decide (wrap64 (-1 - x.2.f0) ∈ out) = true then out else out ++ [wrap64 (-1 - x.2.f0)]) else out
def varsP (l : List (List Int × S30)) : List Int := l.foldl varStep []
theorem varsP_snoc (l : List (List Int × S30)) (x : List Int × S30) : varsP (l ++ [x]) = varStep (varsP l) x := by simp [varsP]
theorem varStep_len (out : List Int) (x : List Int × S30) : (varStep out x).length ≤ out.length + 1 := by
  unfold varStep
  split
  · split
    · omega
    · simp
  · omega
theorem varsP_len (l : List (List Int × S30)) : (varsP l).length ≤ l.length := by
  have key : ∀ (l : List (List Int × S30)) (o : List Int), (l.foldl varStep o).length ≤ o.length + l.length := by
    intro l
    induction l with
    | nil => intro o; simp
    | cons x l ih => intro o; have h1 := ih (varStep o x); have h2 := varStep_len o x; simp only [List.foldl_cons, List.length_cons]; omega
  simpa [varsP] using key l []
def term_Vars.f (a0_0 : Int) (l0_1 : List S30) : Option (List Int) := if (flatP [] ⟨a0_0, l0_1⟩).length ≤ 1099511627776 then some (varsP (flatP [] ⟨a0_0, l0_1⟩)) else none

set_option maxRecDepth 100000 in
set_option maxHeartbeats 2000000 in
theorem term_Vars.calls (a0_0 : Int) (A0_1 : Option Addr) (c0_1 : Nat) (l0_1 : List S30) (r : List Int) (w : World) (hr0_1 : Kd.C k30 w A0_1 l0_1.length l0_1) (hc0_1 : l0_1.length ≤ c0_1) (h : term_Vars.f a0_0 l0_1 = some r) :
    Calls Try.prog 32 #[.agg #[.int .i64 a0_0, .slice A0_1 l0_1.length c0_1]] w fun e w' => ∃ v0_ : Value, e = .returned (v0_) ∧ Kd.R (Kd.int .i64) 3 w' w.heap.size (fun _ => True) v0_ r ∧ Below w.heap.size w w' := by
  unfold term_Vars.f at h
  by_cases hM : (flatP [] ⟨a0_0, l0_1⟩).length ≤ 1099511627776
  · rw [if_pos hM] at h
    obtain rfl := Option.some.inj h
    clear h
    refine (callsIn_wide (n := 9)).1 ?_
    refine callsIn_of_wp_marks Try.func32 rfl trivial ?_ rfl
    simp only [Try.ntmps32, List.size_toArray, List.length_cons, List.length_nil, Nat.reduceAdd, Nat.reduceSub, Array.replicate_succ, Array.replicate_zero, List.push_toArray, List.append_toArray, List.nil_append, List.cons_append]
    gi_wp2_with (refine ⟨trivial, ?_⟩; (try refine ⟨wide_any _, ?_⟩); gi_at_call 72; refine (callsIn_wide.2 (all_any _ _ _)).mono ?_; rintro e w' ⟨rfl, rfl⟩)
    obtain ⟨W3, hW3⟩ : ∃ W, W = ((w.alloc (.cells #[.int .i64 a0_0, .slice A0_1 l0_1.length c0_1] 30)).alloc (.cells #[.slice none 0 0] 25)).alloc (.cells #[.int .i64 a0_0, .slice A0_1 l0_1.length c0_1] 30) := ⟨_, rfl⟩
    have hbx : W3.heap[w.heap.size + 1]? = some (.cells #[.slice none 0 0] 25 (0, 0)) := by
      have := heap_alloc_new (w.alloc (.cells #[.int .i64 a0_0, .slice A0_1 l0_1.length c0_1] 30)) (.cells #[.slice none 0 0] 25)
      rw [World.size_alloc] at this
      rw [hW3]
      exact blk_alloc this _
    have hbB : W3.heap[w.heap.size + 1 + 1]? = some (.cells #[.int .i64 a0_0, .slice A0_1 l0_1.length c0_1] 30 (0, 0)) := by
      have := heap_alloc_new ((w.alloc (.cells #[.int .i64 a0_0, .slice A0_1 l0_1.length c0_1] 30)).alloc (.cells #[.slice none 0 0] 25)) (.cells #[.int .i64 a0_0, .slice A0_1 l0_1.length c0_1] 30)
      rw [World.size_alloc, World.size_alloc] at this
      rw [hW3]
      exact this
    have hb2 : Below w.heap.size w W3 := by rw [hW3]; exact below_alloc (below_alloc (below_alloc (Below.refl _ _) _) _) _
    rw [← hW3]
    clear hW3
    have hF : Kd.F k30 W3 (fun k => ¬ (k = w.heap.size + 1 ∨ (Value.slice none 0 0).ownBlock = some k)) A0_1 l0_1.length l0_1 := Kd.F_mono (Kd.F_below (Kd.C_F k30_heap hr0_1) hb2) (fun k hk h => by simp [Value.ownBlock] at h; omega)
    refine range_all (t := ⟨a0_0, l0_1⟩) (n := 9) rfl (fun k => k = w.heap.size + 1 ∨ (Value.slice none 0 0).ownBlock = some k) A0_1 c0_1 hbB hF hc0_1 hM
      (fun S pre W => ∃ A c, S = (fun k => k = w.heap.size + 1 ∨ (Value.slice A (varsP pre).length c).ownBlock = some k) ∧ W.heap[w.heap.size + 1]? = some (.cells #[.slice A (varsP pre).length c] 25 (0, 0)) ∧ W.ownsRow (w.heap.size + 1 + 1) 3 1 (.slice A (varsP pre).length c) (varsP pre).length ((varsP pre).map (.int .i64)))
      ?hIc ?hIs ⟨none, 0, rfl, hbx, own_nil _ _ _ _⟩ (fun S n0 p s A c As cs a W => ∃ Bx, n0 ≤ Bx ∧ W.heap[Bx]? = some (.cells #[.int .i64 s.f0, .slice As s.f1.length cs] 30 (0, 0)) ∧ a = { tmps := #[.agg #[.int .i64 a0_0, .slice A0_1 l0_1.length c0_1], .pointer (some ⟨w.heap.size, 0, none⟩), .slice none 0 0, .pointer (some ⟨w.heap.size + 1, 0, none⟩), undef, .pointer (some ⟨Bx, 0, none⟩), undef, .agg #[.int .i64 a0_0, .slice A0_1 l0_1.length c0_1], .func (.func 103) #[] #[.pointer (some ⟨w.heap.size + 1 + 1, 0, none⟩)], .slice A p.length c, .agg #[.int .i64 s.f0, .slice As s.f1.length cs], undef, undef, undef, undef, undef, undef, undef, undef, undef, undef, undef, undef, undef, undef, undef, undef, undef], defers := [] }) ?hAx ?assign ?body ?done
    case hIc =>
      rintro S pre W ⟨A, c, rfl, hb, ho⟩ k (rfl | hk)
      · exact ⟨_, hb, rfl⟩
      · obtain ⟨cells, h⟩ := own_typed ho k hk
        exact ⟨_, h, rfl⟩
    case hIs =>
      rintro S pre W W' ⟨A, c, rfl, hb, ho⟩ hs hk
      exact ⟨A, c, rfl, (hk _ (.inl rfl) (blk_lt hb)).trans hb, own_move ho (fun k h => hk k (.inr h) (own_lt ho k h))⟩
    case hAx =>
      rintro S n0 p s A c As cs a₁ W W' ⟨Bx, hBx, hb, h⟩ _ hk
      exact ⟨Bx, hBx, (hk _ hBx (blk_lt hb)).trans hb, h⟩
    case assign =>
      intro l m S p s A c As cs W K hK
      gi_wp2
      refine hK _ _ (below_alloc (Below.refl _ _) _) ⟨W.heap.size, Nat.le_refl _, heap_alloc_new _ _, rfl⟩
    case body =>
      rintro l m S n0 pre p s A c As cs a₁ W ⟨Au, cu, rfl, hb, ho⟩ hn0 hle hlen hpm hp hpc hs hsc ⟨Bx, hBx, hbx, rfl⟩
      have hc0 : W.cell? ⟨w.heap.size + 1, 0, none⟩ = some (.slice Au (varsP pre).length cu) := (blk_cell hb 0).trans rfl
      have hf0 := blk_frozen hb 0
      have hc2 : W.cell? ⟨Bx, 0, none⟩ = some (.int .i64 s.f0) := (blk_cell hbx 0).trans rfl
      have hvl := varsP_len pre
      have hR : (Kd.int .i64).R 3 W (w.heap.size + 1 + 1) (fun _ => True) (.slice Au (varsP pre).length cu) (varsP pre) := Kd.R_of_own (by simpa [encs] using ho) (fun _ _ => trivial)
      obtain ⟨A', c', he, hcl, hC⟩ := Kd.R_reads hR
      injection he with he1 he2 he3
      subst he1 he3
      have hbz := Aside0.mk hb
      have hoz := Aside0.mk ho
      have hCz := Aside0.mk hC
      have hpz := Aside0.mk (varsP_snoc pre (p, s))
      clear hp hs hb hbx hR hC ho he2
      by_cases hneg : s.f0 < 0
      · have hnd : decide (s.f0 < 0) = true := decide_eq_true hneg
        have hcf := contains_f (varsP pre) (wrap64 (-1 - s.f0)) (by omega)
        by_cases hin : decide (wrap64 (-1 - s.f0) ∈ varsP pre) = true
        · rw [hin] at hcf
          have hfz := Aside0.mk hcf
          have hpe : varsP (pre ++ [(p, s)]) = varsP pre := by rw [hpz.out]; simp only [varStep]; rw [if_pos hneg, if_pos hin]
          have hpy := Aside0.mk hpe
          clear hpe hcf hin hneg
          gi_wp2_with (refine ⟨trivial, ?_⟩; (try refine ⟨wide_any _, ?_⟩); gi_at_call 75; refine (CallsIn.inRound l (callsIn_wide.2 (slices_Contains_int_int.calls _ _ _ _ _ _ _ hCz.out hcl hfz.out))).mono ?_; rintro e w' ⟨rfl, ⟨nd, rfl⟩⟩)
          refine ⟨_, ⟨Au, cu, rfl, ?_, ?_⟩, Keeps.drewN W _ _, fun k hk => .inl ?_⟩
          · rw [hpy.out]; exact blk_drewN hbz.out _
          · rw [hpy.out]; exact hoz.out
          · rw [hpy.out] at hk; exact hk
        · have hin' : decide (wrap64 (-1 - s.f0) ∈ varsP pre) = false := by simpa using hin
          rw [hin'] at hcf
          have hfz := Aside0.mk hcf
          have hpe : varsP (pre ++ [(p, s)]) = varsP pre ++ [wrap64 (-1 - s.f0)] := by rw [hpz.out]; simp only [varStep]; rw [if_pos hneg, if_neg hin]
          have hpy := Aside0.mk hpe
          obtain ⟨i0, hi, hz0, hz1, hz2⟩ := info_parts info3
          have hpe2 : (varsP (pre ++ [(p, s)])).length = (varsP pre).length + 1 := by rw [hpe]; simp
          have hpl := Aside0.mk hpe2
          have hW1 := blk_lt hbz.out
          have hoA : Aside0 (∀ nd, (W.drewN nd).ownsRow (w.heap.size + 1 + 1) 3 1 (.slice Au (varsP pre).length cu) (varsP pre).length ((varsP pre).map (.int .i64))) := ⟨fun nd => hoz.out⟩
          clear hpe hpe2 hcf hin hneg hin'
          have hne : Aside0 (some (w.heap.size + 1) ≠ (Value.slice Au (varsP pre).length cu).ownBlock) := ⟨fun e => by have := own_base hoz.out _ e.symm; omega⟩
          generalize hxe : wrap64 (-1 - s.f0) = xv at hfz hpy ⊢
          gi_wp2_with (first | (refine ⟨trivial, ?_⟩; (try refine ⟨wide_any _, ?_⟩); gi_at_call 75; refine (CallsIn.inRound l (callsIn_wide.2 (slices_Contains_int_int.calls _ _ _ _ _ _ _ hCz.out hcl hfz.out))).mono ?_; rintro e w' ⟨rfl, ⟨nd, rfl⟩⟩) | (gi_at_builtin; go_must (refine wpListIn_append_own_at _ rfl _ _ 25 rfl (w.heap.size + 1 + 1) 3 i0 (.int .i64 0) 1 8 Try.underlying25 hi hz0 hz1 hz2 rfl (by decide) _ _ _ rfl ((hoA.out _).alloc _) ⟨W.heap.size, 0, none⟩ 1 1 [.int .i64 xv] rfl rfl (cell_one_new _ _ _) (by simp [Value.oneCell']) (by simp only [maxLen]; omega) (by omega) (by simp; omega) ?_); intro v' w1 hown' hgrow _ hat; obtain ⟨g', cap', rfl⟩ := ownsRow_succ hown'; have hb1 := Aside0.mk (blk_grown (blk_alloc (blk_drewN hbz.out nd) _) hgrow (hne.out)); have hc3 : w1.cell? ⟨w.heap.size + 1, 0, none⟩ = some (.slice Au (varsP pre).length cu) := (blk_cell hb1.out 0).trans rfl; have hf3 := blk_frozen hb1.out 0; have hox := Aside0.mk hown'; have hgx := Aside0.mk hgrow; have hax := Aside0.mk hat; clear hown' hgrow hat))
          have hk1 : Keeps W w1 (fun k => (Value.slice Au (varsP pre).length cu).ownBlock = some k) :=
            (Keeps.of_below (below_alloc (pw_below_drewN (Below.refl _ _) nd) _) _).trans ⟨hgx.out.os, hgx.out.tape, hgx.out.output, hgx.out.size, fun k hk hn => hgx.out.block k hk (fun e => hn e.symm)⟩ (fun b h => .inl h)
          refine ⟨_, ⟨some ⟨g', 0, none⟩, cap', rfl, ?_, ?_⟩, (hk1.mono (fun k hk => .inr hk)).trans (Keeps.setCell w1 _ _) (fun b h => .inl (.inl h)), ?_⟩
          · rw [hpl.out]
            exact blk_put hb1.out 0 _ rfl
          · rw [hpl.out, hpy.out]
            have h1 := own_setCell hox.out (p := ⟨w.heap.size + 1, 0, none⟩) (fun e => by
              have h2 := own_base hox.out _ e.symm
              dsimp only at h2
              omega) (.slice (some ⟨g', 0, none⟩) ((varsP pre).length + 1) cap')
            simpa using h1
          · rintro k (rfl | hk)
            · exact .inl (.inl rfl)
            · rw [hpl.out] at hk
              rcases hax.out with h | h
              · exact .inl (.inr (h ▸ hk))
              · have h2 := h.symm.trans hk
                injection h2 with h2
                refine .inr ?_
                have h3 : W.heap.size + 1 = k := by simpa using h2
                omega
      · have hnd : decide (s.f0 < 0) = false := decide_eq_false hneg
        have hpe : varsP (pre ++ [(p, s)]) = varsP pre := by rw [hpz.out]; simp only [varStep]; rw [if_neg hneg]
        have hpy := Aside0.mk hpe
        clear hpe
        gi_wp2
        refine ⟨trivial, ?_⟩
        gi_wp2
        refine ⟨_, ⟨Au, cu, rfl, ?_, ?_⟩, Keeps.refl W _, fun k hk => .inl ?_⟩
        · rw [hpy.out]; exact hbz.out
        · rw [hpy.out]; exact hoz.out
        · rw [hpy.out] at hk; exact hk
    case done =>
      rintro D S' W' ⟨Au, cu, rfl, hb, ho⟩ hk _ hD hle
      have hc0 : W'.cell? ⟨w.heap.size + 1, 0, none⟩ = some (.slice Au (varsP (flatP [] ⟨a0_0, l0_1⟩)).length cu) := (blk_cell hb 0).trans rfl
      have hkz := Aside0.mk hk
      have hDz := Aside0.mk hD
      have hoz := Aside0.mk ho
      clear hk hD hb ho
      gi_wp2
      refine ⟨by simp, .inl ⟨_, _, rfl, run_takeDeferred hDz.out, ?_⟩⟩
      refine ⟨_, results_tmp rfl _ _ _, _, rfl, ?_, ?_⟩
      · refine Kd.R_of_own ?_ (fun _ _ => trivial)
        have h1 := own_weaken hoz.out (show w.heap.size ≤ w.heap.size + 1 + 1 by omega)
        have h2 : ∀ k, (Value.slice Au (varsP (flatP [] ⟨a0_0, l0_1⟩)).length cu).ownBlock = some k → (W'.putObj D (.deferred none)).heap[k]? = W'.heap[k]? := fun k hk => World.putObj_heap_other (fun e => by
          obtain ⟨cells, h3⟩ := own_typed hoz.out k hk
          have h4 := hDz.out
          subst e
          rw [h3] at h4
          cases h4)
        simpa [encs] using own_move h1 h2
      · have h1 := hkz.out.toBelow hb2.size (fun b hb => by simp [Value.ownBlock] at hb; omega)
        have h2 := hkz.out.size
        have h3 := hb2.size
        exact below_put (hb2.trans h1) (by omega) (by omega) _
  · rw [if_neg hM] at h
    cases h
end Go.Proofs.Ytpfddihcikiofaa.P
