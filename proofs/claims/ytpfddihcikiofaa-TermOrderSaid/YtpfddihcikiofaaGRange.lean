/- 'for .. := range all(t) { .. }': the statement, for a body that goes on at every place. -/
import Derived.Test.YtpfddihcikiofaaGWalk
namespace Go.Proofs.Ytpfddihcikiofaa.P
open Go.RowKit Go.Shelf Go.Proofs.YtpfddihcikiofaaW.PrintWords Go.Proofs.YtpfddihcikiofaaW.PrintLast Go.Proofs.YtpfddihcikiofaaW.PrintMore
set_option linter.unusedVariables false
set_option linter.unusedSimpArgs false
attribute [local go_sem] Oper.semAt_some

set_option maxRecDepth 100000 in
set_option maxHeartbeats 1000000 in
/-- 'func(yield ..) { walk(nil, t, yield) }': t is read out of its box. -/
theorem all1_in (l N B : Nat) (J : (Nat → Prop) → List (List Int × S30) → World → Prop) (hJb : ∀ S pre W, J S pre W → ∀ k, S k → k < W.heap.size)
    (hJs : ∀ S pre W W', J S pre W → Below W.heap.size W W' → J S pre W') (hY : Yields l J N) (t : S30) (n : Nat) (S : Nat → Prop) (As : Option Addr) (cs : Nat) (W : World) (hJ : J S [] W)
    (hB : W.heap[B]? = some (.cells #[.int .i64 t.f0, .slice As t.f1.length cs] 30 (0, 0))) (ht : Kd.F k30 W (fun k => ¬ S k) As t.f1.length t.f1) (hc : t.f1.length ≤ cs)
    (hN : (flatP [] t).length ≤ N) (hM : N ≤ 1099511627776) :
    CallsIn Fence.wide n Try.prog 103 #[.func (.yield l) #[] #[], .pointer (some ⟨B, 0, none⟩)] W fun e W' => (∃ v, e = .returned v) ∧ ∃ S' : Nat → Prop, J S' (flatP [] t) W' ∧ Keeps W W' S ∧ ∀ k, S' k → S k ∨ W.heap.size ≤ k := by
  have hw := callsIn_wide.1 (walk_in l N J hJb hJs hY t 0 S [] none 0 As cs [] W hJ (Kd.F_nil _ _ _) (Nat.le_refl _) ht hc (by simpa using hN) (by simp; omega))
  have hc0 : W.cell? ⟨B, 0, none⟩ = some (.int .i64 t.f0) := (blk_cell hB 0).trans rfl
  have hc1 : W.cell? ⟨B, 1, none⟩ = some (.slice As t.f1.length cs) := (blk_cell hB 1).trans rfl
  refine callsIn_wide.2 ?_
  go_enter Try.func103, Try.ntmps103
  go_wp2_with (go_at_call 104; refine hw.mono ?_; rintro e W' ⟨rfl, S', h1, h2, h3⟩)
  go_end0
  exact ⟨⟨_, rfl⟩, S', by simpa using h1, h2, h3⟩

/-- 'all(t)': the argument is boxed; the function value captures the box. -/
theorem all_any (f : Int) (v : Value) (w : World) : Calls Try.prog 72 #[.agg #[.int .i64 f, v]] w fun e w' => e = .returned (.func (.func 103) #[] #[.pointer (some ⟨w.heap.size, 0, none⟩)]) ∧ w' = w.alloc (.cells #[.int .i64 f, v] 30) := by
  go_enter Try.func72, Try.ntmps72
  go_wp2
  go_ret
  exact ⟨rfl, rfl⟩

theorem Keeps.setCell (W : World) (a : Addr) (v : Value) : Keeps W (W.setCell a v) (fun k => k = a.block) := ⟨rfl, rfl, rfl, by simp [World.setCell], fun k _ hn => Below.heap_setCell _ _ _ _ hn⟩
theorem below_put {B : Nat} {w W : World} (h : Below B w W) (hB : B ≤ W.heap.size) {D : Nat} (hD : B ≤ D) (o : Obj) : Below B w (W.putObj D o) := h.grown (grownBy_putObj' W D o) hB (fun k e => by cases e; exact hD)
/-- How a round's body ends. -/
def bodyEnd (I : (Nat → Prop) → List (List Int × S30) → World → Prop) (S : Nat → Prop) (n0 : Nat) (pre : List (List Int × S30)) (W : World) : Exit → Act → World → Prop
  | .normal, _, W' => ∃ S' : Nat → Prop, I S' pre W' ∧ Keeps W W' S ∧ ∀ k, S' k → S k ∨ n0 ≤ k
  | .ret, _, _ => False
  | .exit _, _, _ => False
  | .goto _, _, _ => False
  | .panic _, _, _ => False
  | .outgrown, _, _ => False

set_option maxRecDepth 100000 in
set_option maxHeartbeats 1000000 in
theorem range_all {g : Operand} {i j : Tmp} {assign body : Code} {Q : Exit → Act → World → Prop} {a : Act} {w : World} {n B : Nat}
    (hg : a.eval g = .func (.func 103) #[] #[.pointer (some ⟨B, 0, none⟩)])
    (t : S30) (S : Nat → Prop) (As : Option Addr) (cs : Nat) (hB : w.heap[B]? = some (.cells #[.int .i64 t.f0, .slice As t.f1.length cs] 30 (0, 0))) (ht : Kd.F k30 w (fun k => ¬ S k) As t.f1.length t.f1) (hc : t.f1.length ≤ cs)
    (hM : (flatP [] t).length ≤ 1099511627776)
    (I : (Nat → Prop) → List (List Int × S30) → World → Prop)
    (hIc : ∀ S pre W, I S pre W → ∀ k, S k → ∃ o : Obj, W.heap[k]? = some o ∧ o.isCells = true)
    (hIs : ∀ S pre (W W' : World), I S pre W → W.heap.size ≤ W'.heap.size → (∀ k, S k → k < W.heap.size → W'.heap[k]? = W.heap[k]?) → I S pre W')
    (h0 : I S [] w)
    (Ax : (Nat → Prop) → Nat → List Int → S30 → Option Addr → Nat → Option Addr → Nat → Act → World → Prop)
    (hAx : ∀ S n0 p s A c As cs a₁ (W W' : World), Ax S n0 p s A c As cs a₁ W → W.heap.size ≤ W'.heap.size → (∀ k, n0 ≤ k → k < W.heap.size → W'.heap[k]? = W.heap[k]?) → Ax S n0 p s A c As cs a₁ W')
    (hassign : ∀ (l m : Nat) (S : Nat → Prop) (p : List Int) (s : S30) (A : Option Addr) (c : Nat) (As : Option Addr) (cs : Nat) (W : World) (K : Act → World → Prop),
      (∀ a₁ W₁, Below W.heap.size W W₁ → Ax S W.heap.size p s A c As cs a₁ W₁ → K a₁ W₁) →
      assign.wpIn (Fence.wide.inRound l) m Try.prog (Exit.then K (fun _ _ _ => False)) { tmps := (a.tmps.setIfInBounds i (.slice A p.length c)).setIfInBounds j (.agg #[.int .i64 s.f0, .slice As s.f1.length cs]), defers := [] } W)
    (hbody : ∀ (l m : Nat) (S : Nat → Prop) (n0 : Nat) (pre : List (List Int × S30)) (p : List Int) (s : S30) (A : Option Addr) (c : Nat) (As : Option Addr) (cs : Nat) (a₁ : Act) (W : World), I S pre W → (∀ k, S k → k < n0) → n0 ≤ W.heap.size → pre.length < (flatP [] t).length → p.length ≤ 1099511627776 →
      Kd.F (Kd.int .i64) W (fun k => ¬ S k) A p.length p → p.length ≤ c → Kd.F k30 W (fun k => ¬ S k) As s.f1.length s.f1 → s.f1.length ≤ cs → Ax S n0 p s A c As cs a₁ W →
      body.wpIn (Fence.wide.inRound l) m Try.prog (bodyEnd I S n0 (pre ++ [(p, s)]) W) a₁ W)
    (hdone : ∀ (D : Nat) (S' : Nat → Prop) (W' : World), I S' (flatP [] t) W' → Keeps w W' S → (∀ k, S' k → S k ∨ w.heap.size ≤ k) → W'.heap[D]? = some (.deferred (some [])) → w.heap.size ≤ D → Q .normal { a with defers := { target := .collected D, args := #[] } :: a.defers } W') :
    (Code.rangeFunc g #[i, j] assign body).wpIn Fence.wide n Try.prog Q a w := by
  refine wpIn_rangeFunc ?_
  intro fn hfn
  rw [show Fence.wide.round = none from rfl]
  obtain ⟨rec, hrec⟩ : ∃ rec : LoopState → Option Code → Loop, rec = fun st pe => { state := st, pending := pe, fn, tmps := a.tmps, params := #[i, j], assign, body, defers := w.heap.size } := ⟨_, rfl⟩
  obtain ⟨W1, hW1⟩ : ∃ W1, (w.alloc (.deferred (some []))).alloc (.loop (rec .ready none)) = W1 := ⟨_, rfl⟩
  have hL1 : W1.heap[w.heap.size + 1]? = some (.loop (rec .ready none)) := by
    rw [← hW1]; have := World.alloc_heap_new (w.alloc (.deferred (some []))) (.loop (rec .ready none)); rwa [World.size_alloc] at this
  have hK1 : W1.heap[w.heap.size]? = some (.deferred (some [])) := by
    rw [← hW1]; exact (Below.heap_alloc _ _ _ (by simp)).trans (World.alloc_heap_new w _)
  have hb1 : Below w.heap.size w W1 := by
    rw [← hW1]; exact ((Below.refl _ w).alloc (Nat.le_refl _) _).alloc (by simp) _
  have hI1 : I S [] W1 := hIs _ _ _ _ h0 hb1.size (fun k _ hk => hb1.block k hk)
  refine ⟨w.heap.size + 1, [{ target := .collected w.heap.size, args := #[] }], W1, { target := .fn (.func 103) #[.pointer (some ⟨B, 0, none⟩)], args := #[.func (.yield (w.heap.size + 1)) #[] #[]] }, W1, 103,
    #[.func (.yield (w.heap.size + 1)) #[] #[]] ++ #[.pointer (some ⟨B, 0, none⟩)], W1, ?_, ?_, fun _ _ => trivial, ?_, fun h => (by cases h), ?_⟩
  · rw [← hW1, hrec]; exact run_enterLoop_outer _ _ _ _ _
  · simp only [resolve, hg]
    simp [go_sem]
  · have eg := enters_ (P := Try.prog) Try.func103 (by kernel_rfl) rfl
    simp [invoke, go_sem, eg]
  · have hcellne : ∀ {S pre W k}, I S pre W → S k → ∀ {o : Obj}, W.heap[k]? = some o → o.isCells = true := fun {S pre W k} hI hk {o} ho => by
      obtain ⟨o', ho', hc'⟩ := hIc _ _ _ hI k hk
      rw [ho] at ho'; cases ho'; exact hc'
    have hlt : ∀ {S pre W k}, I S pre W → S k → k < W.heap.size := fun {S pre W k} hI hk => by
      obtain ⟨o', ho', _⟩ := hIc _ _ _ hI k hk
      exact blk_lt ho'
    refine (all1_in (w.heap.size + 1) (flatP [] t).length B
      (fun SJ pre W => ∃ S : Nat → Prop, SJ = (fun k => S k ∨ k = w.heap.size + 1 ∨ k = w.heap.size) ∧ I S pre W ∧ W.heap[w.heap.size + 1]? = some (.loop (rec .ready none)) ∧ W.heap[w.heap.size]? = some (.deferred (some [])))
      ?_
      (fun SJ pre W W' ⟨S, e, h1, h2, h3⟩ hb => ⟨S, e, hIs _ _ _ _ h1 hb.size (fun k _ hk => hb.block k hk), blk_below h2 hb, blk_below h3 hb⟩)
      ?_ t _ (fun k => S k ∨ k = w.heap.size + 1 ∨ k = w.heap.size) As cs W1 ⟨S, rfl, hI1, hL1, hK1⟩ (blk_below hB hb1) ?_ hc (Nat.le_refl _) hM).mono ?_
    · rintro SJ pre W ⟨S, rfl, h1, h2, h3⟩ k (hk | rfl | rfl)
      · exact hlt h1 hk
      · exact blk_lt h2
      · exact blk_lt h3
    · -- ONE ROUND
      rintro m SJ pre p s A c As2 cs2 W ⟨S2, rfl, hi, hl, hk⟩ hlen hpm hp hpc hs hsc
      have hy := run_yield (P := Try.prog) (args := #[.slice A p.length c, .agg #[.int .i64 s.f0, .slice As2 s.f1.length cs2]]) hl (by rw [hrec]; rfl)
      rw [hrec] at hy
      have hz : ∀ (u v : Value), (#[i, j].zip #[u, v]).foldl (fun (t : Array Value) (x : Tmp × Value) => t.setIfInBounds x.1 x.2) a.tmps = (a.tmps.setIfInBounds i u).setIfInBounds j v := fun u v => by simp
      rw [show ∀ (u v : Value), (#[i, j].zip #[u, v]).foldl (fun (t : Array Value) (x : Tmp × Value) => t.setIfInBounds x.1 x.2) a.tmps = (a.tmps.setIfInBounds i u).setIfInBounds j v from hz] at hy
      refine ⟨fn, _, assign, body, hy, roundIn_of_wpIn trivial (hassign _ m S2 p s A c As2 cs2 W _ (fun a₁ W₁ hb hax => ⟨_, run_beginRound (blk_below hl hb) (by rw [hrec]), ?_⟩))⟩
      have hll := blk_lt hl
      have hkl := blk_lt hk
      have hl2 : (W₁.putObj (w.heap.size + 1) (.loop { rec .ready none with state := .busy })).heap[w.heap.size + 1]? = some (.loop { rec .ready none with state := .busy }) := World.putObj_heap_same (Nat.lt_of_lt_of_le hll hb.size)
      have hk2 : (W₁.putObj (w.heap.size + 1) (.loop { rec .ready none with state := .busy })).heap[w.heap.size]? = some (.deferred (some [])) := (World.putObj_heap_other (by omega)).trans (blk_below hk hb)
      have hSl : ¬ S2 (w.heap.size + 1) := fun h => by have := hcellne hi h hl; cases this
      have hSk : ¬ S2 w.heap.size := fun h => by have := hcellne hi h hk; cases this
      have hkp : Keeps W (W₁.putObj (w.heap.size + 1) (.loop { rec .ready none with state := .busy })) (fun k => k = w.heap.size + 1) :=
        ⟨hb.os, hb.tape, hb.output, by simpa using hb.size, fun k hk hn => (World.putObj_heap_other (by omega)).trans (hb.block k hk)⟩
      have hax2 := hAx _ _ _ _ _ _ _ _ _ _ (W₁.putObj (w.heap.size + 1) (.loop { rec .ready none with state := .busy })) hax (by simp) (fun k hk _ => World.putObj_heap_other (by omega))
      generalize W₁.putObj (w.heap.size + 1) (.loop { rec .ready none with state := .busy }) = W2 at hl2 hk2 hkp hax2 ⊢
      have hi2 : I S2 pre W2 := hIs _ _ _ _ hi hkp.size (fun k hk hlt => hkp.block k hlt (fun e => hSl (e ▸ hk)))
      have hp2 := Kd.F_mono (Kd.F_step hp (fun k hk hlt => hkp.block k hlt (fun e => hk (.inr (.inl e))))) (ok' := fun k => ¬ S2 k) (fun k hk h => hk (.inl h))
      have hs2 := Kd.F_mono (Kd.F_step hs (fun k hk hlt => hkp.block k hlt (fun e => hk (.inr (.inl e))))) (ok' := fun k => ¬ S2 k) (fun k hk h => hk (.inl h))
      refine wpIn_mono (hbody _ m S2 W.heap.size pre p s A c As2 cs2 a₁ W2 hi2 (fun k hk => hlt hi hk) hkp.size hlen hpm hp2 hpc hs2 hsc hax2) ?_
      rintro e a3 W3 hpost
      cases e with
      | normal =>
        obtain ⟨S3, hi3, hk3, hsub3⟩ := hpost
        have hl3 := hk3.blk hl2 hSl
        have hk3' := hk3.blk hk2 hSk
        have hSl3 : ¬ S3 (w.heap.size + 1) := fun h => by have := hcellne hi3 h hl3; cases this
        have hend := run_endRound (P := Try.prog) none hl3
        rw [hrec] at hend
        refine ⟨_, _, hend, rfl, fun k => S3 k ∨ k = w.heap.size + 1 ∨ k = w.heap.size, ⟨S3, rfl, ?_, ?_, ?_⟩, ?_, ?_⟩
        · exact hIs _ _ _ _ hi3 (by simp) (fun k hk _ => World.putObj_heap_other (fun e => hSl3 (e ▸ hk)))
        · rw [hrec]
          exact World.putObj_heap_same (blk_lt hl3)
        · exact (World.putObj_heap_other (by omega)).trans hk3'
        · refine ⟨hk3.os.trans hkp.os, hk3.tape.trans hkp.tape, hk3.output.trans hkp.output, ?_, ?_⟩
          · have h1 := hkp.size
            have h2 := hk3.size
            simp
            omega
          · intro k hk hn
            refine (World.putObj_heap_other (fun e => hn (.inr (.inl e)))).trans ((hk3.block k (Nat.lt_of_lt_of_le hk hkp.size) (fun h => hn (.inl h))).trans (hkp.block k hk (fun e => hn (.inr (.inl e)))))
        · rintro k (hk | rfl | rfl)
          · exact (hsub3 k hk).imp_left .inl
          · exact .inl (.inr (.inl rfl))
          · exact .inl (.inr (.inr rfl))
      | ret => exact hpost.elim
      | exit id => exact hpost.elim
      | goto t => exact hpost.elim
      | panic ch => exact hpost.elim
      | outgrown => exact hpost.elim
    · refine Kd.F_mono (Kd.F_bound (Kd.F_below (Kd.F_mono (Kd.F_bound ht) (fun k hk => hk)) hb1)) ?_
      rintro k ⟨⟨hk, hlt'⟩, _⟩ (h | rfl | rfl)
      · exact hk h
      · omega
      · omega
    · rintro e W2 ⟨⟨v, rfl⟩, SJ, ⟨S', rfl, hi, hl, hk⟩, hkp, hsub⟩
      have hSl : ¬ S' (w.heap.size + 1) := fun h => by have := hcellne hi h hl; cases this
      have hSk : ¬ S' w.heap.size := fun h => by have := hcellne hi h hk; cases this
      refine ⟨none, _, by have := run_endLoop (P := Try.prog) hl (by rw [hrec]; simp); rw [hrec] at this; exact this, ?_⟩
      refine hdone _ S' _ (hIs _ _ _ _ hi (by simp) (fun k hk _ => World.putObj_heap_other (fun e => hSl (e ▸ hk)))) ?_ (fun k hk => ?_) ((World.putObj_heap_other (by omega)).trans hk) (Nat.le_refl _)
      · have h1 := (Keeps.of_below hb1 S).trans hkp (fun b h => ?_)
        · exact ⟨h1.os, h1.tape, h1.output, by simpa using h1.size, fun k hk hn => (World.putObj_heap_other (by omega)).trans (h1.block k hk hn)⟩
        · rcases h with h | rfl | rfl
          · exact .inl h
          · exact .inr (by omega)
          · exact .inr (Nat.le_refl _)
      · rcases hsub k (.inl hk) with (h | rfl | rfl) | h
        · exact .inl h
        · exact .inr (by omega)
        · exact .inr (Nat.le_refl _)
        · exact .inr (Nat.le_trans hb1.size h)
end Go.Proofs.Ytpfddihcikiofaa.P
