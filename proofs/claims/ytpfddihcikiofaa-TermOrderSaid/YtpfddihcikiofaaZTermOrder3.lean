/- The law TermOrder holds of every input. Part 3 of 3: GRange, GSize, GClone, GPlaces, PxSoriteslaw06Alive, GFlat, PxTermParts, PxTermClone, PxTermSame, GCmp, GTermOrder, LawTermOrder. -/
import Derived.Test.YtpfddihcikiofaaZTermOrder2
import Derived.Maps.OwnIn
import Derived.Deep.DeepMust
import Derived.WalkSpells
import Derived.Test.YtpfddihcikiofaaRows
import Derived.WalkKit
import Derived.ProofKit
import Derived.OpenShut
import Derived.ShutString
import Derived.ChangeOld
import Derived.Below
import Derived.SizedLaws
import Derived.Test.YtpfddihcikiofaaZTermOrder1
section
namespace Go.Proofs.Ytpfddihcikiofaa.P
open Go.RowKit Go.Shelf Go.Proofs.YtpfddihcikiofaaW.PrintWords Go.Proofs.YtpfddihcikiofaaW.PrintLast Go.Proofs.YtpfddihcikiofaaW.PrintMore
set_option linter.unusedVariables false
set_option linter.unusedSimpArgs false
attribute [local go_sem] Oper.semAt_some
set_option maxRecDepth 100000 in
set_option maxHeartbeats 1000000 in
theorem all1_in (l N B : Nat) (J : (Nat → Prop) → List (List Int × S30) → World → Prop) (hJb : ∀ S pre W, J S pre W → ∀ k, S k → k < W.heap.size)
    (hJs : ∀ S pre W W', J S pre W → Below W.heap.size W W' → J S pre W') (hY : Yields l J N) (t : S30) (n : Nat) (S : Nat → Prop) (As : Option Addr) (cs : Nat) (W : World) (hJ : J S [] W)
    (hB : W.heap[B]? = some (.cells #[.int .i64 t.f0, .slice As t.f1.length cs] 30 (0, 0))) (ht : Kd.F k30 W (fun k => ¬ S k) As t.f1.length t.f1) (hc : t.f1.length ≤ cs)
    (hN : (flatP [] t).length ≤ N) (hM : N ≤ 1099511627776) :
    CallsIn Fence.wide n Try.prog 103 #[.func (.yield l) #[] #[], .pointer (some ⟨B, 0, none⟩)] W fun e W' => (∃ v, e = .returned v) ∧ ∃ S' : Nat → Prop, J S' (flatP [] t) W' ∧ Keeps W W' S ∧ ∀ k, S' k → S k ∨ W.heap.size ≤ k := by
  have hw := callsIn_wide.1 (walkIn_ l N J hJb hJs hY t 0 S [] none 0 As cs [] W hJ (Kd.F_nil _ _ _) (Nat.le_refl _) ht hc (by simpa using hN) (by simp; omega))
  have hc0 : W.cell? ⟨B, 0, none⟩ = some (.int .i64 t.f0) := (blk_cell hB 0).trans rfl
  have hc1 : W.cell? ⟨B, 1, none⟩ = some (.slice As t.f1.length cs) := (blk_cell hB 1).trans rfl
  refine callsIn_wide.2 ?_
  go_enter Try.func103, Try.ntmps103
  go_wp2_with (go_at_call 104; refine hw.mono ?_; rintro e W' ⟨rfl, S', h1, h2, h3⟩)
  go_end0
  exact ⟨⟨_, rfl⟩, S', by simpa using h1, h2, h3⟩
theorem all_any (f : Int) (v : Value) (w : World) : Calls Try.prog 72 #[.agg #[.int .i64 f, v]] w fun e w' => e = .returned (.func (.func 103) #[] #[.pointer (some ⟨w.heap.size, 0, none⟩)]) ∧ w' = w.alloc (.cells #[.int .i64 f, v] 30) := by
  go_enter Try.func72, Try.ntmps72
  go_wp2
  go_ret
  exact ⟨rfl, rfl⟩
theorem Keeps.setCell (W : World) (a : Addr) (v : Value) : Keeps W (W.setCell a v) (fun k => k = a.block) := ⟨rfl, rfl, rfl, by simp [World.setCell], fun k _ hn => Below.heap_setCell _ _ _ _ hn⟩
theorem below_put {B : Nat} {w W : World} (h : Below B w W) (hB : B ≤ W.heap.size) {D : Nat} (hD : B ≤ D) (o : Obj) : Below B w (W.putObj D o) := h.grown (grownBy_putObj' W D o) hB (fun k e => by cases e; exact hD)
def bodyEnd (I : (Nat → Prop) → List (List Int × S30) → World → Prop) (S : Nat → Prop) (n0 : Nat) (pre : List (List Int × S30)) (W : World) : Exit → Act → World → Prop
  | .normal, _, W' => ∃ S' : Nat → Prop, I S' pre W' ∧ Keeps W W' S ∧ ∀ k, S' k → S k ∨ n0 ≤ k
  | .ret, _, _ => False
  | .exit _, _, _ => False
  | .goto _, _, _ => False
  | .panic _, _, _ => False
  | .outgrown, _, _ => False
set_option maxRecDepth 100000 in
set_option maxHeartbeats 1000000 in
theorem range_all {g : Operand} {i j : Tmp} {assign body : Code} {Q : Exit → Act → World → Prop} {a : Act} {w : World} {n B : Nat}
    (hg : a.eval g = .func (.func 103) #[] #[.pointer (some ⟨B, 0, none⟩)])
    (t : S30) (S : Nat → Prop) (As : Option Addr) (cs : Nat) (hB : w.heap[B]? = some (.cells #[.int .i64 t.f0, .slice As t.f1.length cs] 30 (0, 0))) (ht : Kd.F k30 w (fun k => ¬ S k) As t.f1.length t.f1) (hc : t.f1.length ≤ cs)
    (hM : (flatP [] t).length ≤ 1099511627776)
    (I : (Nat → Prop) → List (List Int × S30) → World → Prop)
    (hIc : ∀ S pre W, I S pre W → ∀ k, S k → ∃ o : Obj, W.heap[k]? = some o ∧ o.isCells = true)
    (hIs : ∀ S pre (W W' : World), I S pre W → W.heap.size ≤ W'.heap.size → (∀ k, S k → k < W.heap.size → W'.heap[k]? = W.heap[k]?) → I S pre W')
    (h0 : I S [] w)
    (Ax : (Nat → Prop) → Nat → List Int → S30 → Option Addr → Nat → Option Addr → Nat → Act → World → Prop)
    (hAx : ∀ S n0 p s A c As cs a₁ (W W' : World), Ax S n0 p s A c As cs a₁ W → W.heap.size ≤ W'.heap.size → (∀ k, n0 ≤ k → k < W.heap.size → W'.heap[k]? = W.heap[k]?) → Ax S n0 p s A c As cs a₁ W')
    (hassign : ∀ (l m : Nat) (S : Nat → Prop) (p : List Int) (s : S30) (A : Option Addr) (c : Nat) (As : Option Addr) (cs : Nat) (W : World) (K : Act → World → Prop),
      (∀ a₁ W₁, Below W.heap.size W W₁ → Ax S W.heap.size p s A c As cs a₁ W₁ → K a₁ W₁) →
      assign.wpIn (Fence.wide.inRound l) m Try.prog (Exit.then K (fun _ _ _ => False)) { tmps := (a.tmps.setIfInBounds i (.slice A p.length c)).setIfInBounds j (.agg #[.int .i64 s.f0, .slice As s.f1.length cs]), defers := [] } W)
    (hbody : ∀ (l m : Nat) (S : Nat → Prop) (n0 : Nat) (pre : List (List Int × S30)) (p : List Int) (s : S30) (A : Option Addr) (c : Nat) (As : Option Addr) (cs : Nat) (a₁ : Act) (W : World), I S pre W → (∀ k, S k → k < n0) → n0 ≤ W.heap.size → pre.length < (flatP [] t).length → p.length ≤ 1099511627776 →
      Kd.F (Kd.int .i64) W (fun k => ¬ S k) A p.length p → p.length ≤ c → Kd.F k30 W (fun k => ¬ S k) As s.f1.length s.f1 → s.f1.length ≤ cs → Ax S n0 p s A c As cs a₁ W →
      body.wpIn (Fence.wide.inRound l) m Try.prog (bodyEnd I S n0 (pre ++ [(p, s)]) W) a₁ W)
    (hdone : ∀ (D : Nat) (S' : Nat → Prop) (W' : World), I S' (flatP [] t) W' → Keeps w W' S → (∀ k, S' k → S k ∨ w.heap.size ≤ k) → W'.heap[D]? = some (.deferred (some [])) → w.heap.size ≤ D → Q .normal { a with defers := { target := .collected D, args := #[] } :: a.defers } W') :
    (Code.rangeFunc g #[i, j] assign body).wpIn Fence.wide n Try.prog Q a w := by
  refine wpIn_rangeFunc ?_
  intro fn hfn
  rw [show Fence.wide.round = none from rfl]
  obtain ⟨rec, hrec⟩ : ∃ rec : LoopState → Option Code → Loop, rec = fun st pe => { state := st, pending := pe, fn, tmps := a.tmps, params := #[i, j], assign, body, defers := w.heap.size } := ⟨_, rfl⟩
  obtain ⟨W1, hW1⟩ : ∃ W1, (w.alloc (.deferred (some []))).alloc (.loop (rec .ready none)) = W1 := ⟨_, rfl⟩
  have hL1 : W1.heap[w.heap.size + 1]? = some (.loop (rec .ready none)) := by
    rw [← hW1]; have := World.alloc_heap_new (w.alloc (.deferred (some []))) (.loop (rec .ready none)); rwa [World.size_alloc] at this
  have hK1 : W1.heap[w.heap.size]? = some (.deferred (some [])) := by
    rw [← hW1]; exact (Below.heap_alloc _ _ _ (by simp)).trans (World.alloc_heap_new w _)
  have hb1 : Below w.heap.size w W1 := by
    rw [← hW1]; exact ((Below.refl _ w).alloc (Nat.le_refl _) _).alloc (by simp) _
  have hI1 : I S [] W1 := hIs _ _ _ _ h0 hb1.size (fun k _ hk => hb1.block k hk)
  refine ⟨w.heap.size + 1, [{ target := .collected w.heap.size, args := #[] }], W1, { target := .fn (.func 103) #[.pointer (some ⟨B, 0, none⟩)], args := #[.func (.yield (w.heap.size + 1)) #[] #[]] }, W1, 103,
    #[.func (.yield (w.heap.size + 1)) #[] #[]] ++ #[.pointer (some ⟨B, 0, none⟩)], W1, ?_, ?_, fun _ _ => trivial, ?_, fun h => (by cases h), ?_⟩
  · rw [← hW1, hrec]; exact run_enterLoop_outer _ _ _ _ _
  · simp only [resolve, hg]
    simp [go_sem]
  · have eg := enters_ (P := Try.prog) Try.func103 (by kernel_rfl) rfl
    simp [invoke, go_sem, eg]
  · have hcellne : ∀ {S pre W k}, I S pre W → S k → ∀ {o : Obj}, W.heap[k]? = some o → o.isCells = true := fun {S pre W k} hI hk {o} ho => by
      obtain ⟨o', ho', hc'⟩ := hIc _ _ _ hI k hk
      rw [ho] at ho'; cases ho'; exact hc'
    have hlt : ∀ {S pre W k}, I S pre W → S k → k < W.heap.size := fun {S pre W k} hI hk => by
      obtain ⟨o', ho', _⟩ := hIc _ _ _ hI k hk
      exact blk_lt ho'
    refine (all1_in (w.heap.size + 1) (flatP [] t).length B
      (fun SJ pre W => ∃ S : Nat → Prop, SJ = (fun k => S k ∨ k = w.heap.size + 1 ∨ k = w.heap.size) ∧ I S pre W ∧ W.heap[w.heap.size + 1]? = some (.loop (rec .ready none)) ∧ W.heap[w.heap.size]? = some (.deferred (some [])))
      ?_
      (fun SJ pre W W' ⟨S, e, h1, h2, h3⟩ hb => ⟨S, e, hIs _ _ _ _ h1 hb.size (fun k _ hk => hb.block k hk), blk_below h2 hb, blk_below h3 hb⟩)
      ?_ t _ (fun k => S k ∨ k = w.heap.size + 1 ∨ k = w.heap.size) As cs W1 ⟨S, rfl, hI1, hL1, hK1⟩ (blk_below hB hb1) ?_ hc (Nat.le_refl _) hM).mono ?_
    · rintro SJ pre W ⟨S, rfl, h1, h2, h3⟩ k (hk | rfl | rfl)
      · exact hlt h1 hk
      · exact blk_lt h2
      · exact blk_lt h3
    ·
      rintro m SJ pre p s A c As2 cs2 W ⟨S2, rfl, hi, hl, hk⟩ hlen hpm hp hpc hs hsc
      have hy := run_yield (P := Try.prog) (args := #[.slice A p.length c, .agg #[.int .i64 s.f0, .slice As2 s.f1.length cs2]]) hl (by rw [hrec]; rfl)
      rw [hrec] at hy
      have hz : ∀ (u v : Value), (#[i, j].zip #[u, v]).foldl (fun (t : Array Value) (x : Tmp × Value) => t.setIfInBounds x.1 x.2) a.tmps = (a.tmps.setIfInBounds i u).setIfInBounds j v := fun u v => by simp
      rw [show ∀ (u v : Value), (#[i, j].zip #[u, v]).foldl (fun (t : Array Value) (x : Tmp × Value) => t.setIfInBounds x.1 x.2) a.tmps = (a.tmps.setIfInBounds i u).setIfInBounds j v from hz] at hy
      refine ⟨fn, _, assign, body, hy, roundIn_of_wpIn trivial (hassign _ m S2 p s A c As2 cs2 W _ (fun a₁ W₁ hb hax => ⟨_, run_beginRound (blk_below hl hb) (by rw [hrec]), ?_⟩))⟩
      have hll := blk_lt hl
      have hkl := blk_lt hk
      have hl2 : (W₁.putObj (w.heap.size + 1) (.loop { rec .ready none with state := .busy })).heap[w.heap.size + 1]? = some (.loop { rec .ready none with state := .busy }) := World.putObj_heap_same (Nat.lt_of_lt_of_le hll hb.size)
      have hk2 : (W₁.putObj (w.heap.size + 1) (.loop { rec .ready none with state := .busy })).heap[w.heap.size]? = some (.deferred (some [])) := (World.putObj_heap_other (by omega)).trans (blk_below hk hb)
      have hSl : ¬ S2 (w.heap.size + 1) := fun h => by have := hcellne hi h hl; cases this
      have hSk : ¬ S2 w.heap.size := fun h => by have := hcellne hi h hk; cases this
      have hkp : Keeps W (W₁.putObj (w.heap.size + 1) (.loop { rec .ready none with state := .busy })) (fun k => k = w.heap.size + 1) :=
        ⟨hb.os, hb.tape, hb.output, by simpa using hb.size, fun k hk hn => (World.putObj_heap_other (by omega)).trans (hb.block k hk)⟩
      have hax2 := hAx _ _ _ _ _ _ _ _ _ _ (W₁.putObj (w.heap.size + 1) (.loop { rec .ready none with state := .busy })) hax (by simp) (fun k hk _ => World.putObj_heap_other (by omega))
      generalize W₁.putObj (w.heap.size + 1) (.loop { rec .ready none with state := .busy }) = W2 at hl2 hk2 hkp hax2 ⊢
      have hi2 : I S2 pre W2 := hIs _ _ _ _ hi hkp.size (fun k hk hlt => hkp.block k hlt (fun e => hSl (e ▸ hk)))
      have hp2 := Kd.F_mono (Kd.F_step hp (fun k hk hlt => hkp.block k hlt (fun e => hk (.inr (.inl e))))) (ok' := fun k => ¬ S2 k) (fun k hk h => hk (.inl h))
      have hs2 := Kd.F_mono (Kd.F_step hs (fun k hk hlt => hkp.block k hlt (fun e => hk (.inr (.inl e))))) (ok' := fun k => ¬ S2 k) (fun k hk h => hk (.inl h))
      refine wpIn_mono (hbody _ m S2 W.heap.size pre p s A c As2 cs2 a₁ W2 hi2 (fun k hk => hlt hi hk) hkp.size hlen hpm hp2 hpc hs2 hsc hax2) ?_
      rintro e a3 W3 hpost
      cases e with
      | normal =>
        obtain ⟨S3, hi3, hk3, hsub3⟩ := hpost
        have hl3 := hk3.blk hl2 hSl
        have hk3' := hk3.blk hk2 hSk
        have hSl3 : ¬ S3 (w.heap.size + 1) := fun h => by have := hcellne hi3 h hl3; cases this
        have hend := run_endRound (P := Try.prog) none hl3
        rw [hrec] at hend
        refine ⟨_, _, hend, rfl, fun k => S3 k ∨ k = w.heap.size + 1 ∨ k = w.heap.size, ⟨S3, rfl, ?_, ?_, ?_⟩, ?_, ?_⟩
        · exact hIs _ _ _ _ hi3 (by simp) (fun k hk _ => World.putObj_heap_other (fun e => hSl3 (e ▸ hk)))
        · rw [hrec]
          exact World.putObj_heap_same (blk_lt hl3)
        · exact (World.putObj_heap_other (by omega)).trans hk3'
        · refine ⟨hk3.os.trans hkp.os, hk3.tape.trans hkp.tape, hk3.output.trans hkp.output, ?_, ?_⟩
          · have h1 := hkp.size
            have h2 := hk3.size
            simp
            omega
          · intro k hk hn
            refine (World.putObj_heap_other (fun e => hn (.inr (.inl e)))).trans ((hk3.block k (Nat.lt_of_lt_of_le hk hkp.size) (fun h => hn (.inl h))).trans (hkp.block k hk (fun e => hn (.inr (.inl e)))))
        · rintro k (hk | rfl | rfl)
          · exact (hsub3 k hk).imp_left .inl
          · exact .inl (.inr (.inl rfl))
          · exact .inl (.inr (.inr rfl))
      | ret => exact hpost.elim
      | exit id => exact hpost.elim
      | goto t => exact hpost.elim
      | panic ch => exact hpost.elim
      | outgrown => exact hpost.elim
    · refine Kd.F_mono (Kd.F_bound (Kd.F_below (Kd.F_mono (Kd.F_bound ht) (fun k hk => hk)) hb1)) ?_
      rintro k ⟨⟨hk, hlt'⟩, _⟩ (h | rfl | rfl)
      · exact hk h
      · omega
      · omega
    · rintro e W2 ⟨⟨v, rfl⟩, SJ, ⟨S', rfl, hi, hl, hk⟩, hkp, hsub⟩
      have hSl : ¬ S' (w.heap.size + 1) := fun h => by have := hcellne hi h hl; cases this
      have hSk : ¬ S' w.heap.size := fun h => by have := hcellne hi h hk; cases this
      refine ⟨none, _, by have := run_endLoop (P := Try.prog) hl (by rw [hrec]; simp); rw [hrec] at this; exact this, ?_⟩
      refine hdone _ S' _ (hIs _ _ _ _ hi (by simp) (fun k hk _ => World.putObj_heap_other (fun e => hSl (e ▸ hk)))) ?_ (fun k hk => ?_) ((World.putObj_heap_other (by omega)).trans hk) (Nat.le_refl _)
      · have h1 := (Keeps.of_below hb1 S).trans hkp (fun b h => ?_)
        · exact ⟨h1.os, h1.tape, h1.output, by simpa using h1.size, fun k hk hn => (World.putObj_heap_other (by omega)).trans (h1.block k hk hn)⟩
        · rcases h with h | rfl | rfl
          · exact .inl h
          · exact .inr (by omega)
          · exact .inr (Nat.le_refl _)
      · rcases hsub k (.inl hk) with (h | rfl | rfl) | h
        · exact .inl h
        · exact .inr (by omega)
        · exact .inr (Nat.le_refl _)
        · exact .inr (Nat.le_trans hb1.size h)
end Go.Proofs.Ytpfddihcikiofaa.P
end
section
namespace Go.Proofs.Ytpfddihcikiofaa.P
open Go.RowKit Go.Shelf Go.Proofs.YtpfddihcikiofaaW.PrintWords Go.Proofs.YtpfddihcikiofaaW.PrintLast Go.Proofs.YtpfddihcikiofaaW.PrintMore
set_option linter.unusedVariables false
set_option linter.unusedSimpArgs false
attribute [local go_sem] Oper.semAt_some
def term_Size.f (a0_0 : Int) (l0_1 : List S30) : Option Int := if (flatP [] ⟨a0_0, l0_1⟩).length ≤ 1099511627776 then some ((flatP [] ⟨a0_0, l0_1⟩).length : Int) else none
set_option maxRecDepth 100000 in
set_option maxHeartbeats 2000000 in
theorem term_Size.calls (a0_0 : Int) (A0_1 : Option Addr) (c0_1 : Nat) (l0_1 : List S30) (r : Int) (w : World) (hr0_1 : Kd.C k30 w A0_1 l0_1.length l0_1) (hc0_1 : l0_1.length ≤ c0_1) (h : term_Size.f a0_0 l0_1 = some r) :
    Calls Try.prog 34 #[.agg #[.int .i64 a0_0, .slice A0_1 l0_1.length c0_1]] w fun e w' => e = .returned (.int .i64 r) ∧ Below w.heap.size w w' := by
  unfold term_Size.f at h
  by_cases hM : (flatP [] ⟨a0_0, l0_1⟩).length ≤ 1099511627776
  · rw [if_pos hM] at h
    obtain rfl := Option.some.inj h
    clear h
    refine (callsIn_wide (n := 9)).1 ?_
    refine callsIn_of_wp_marks Try.func34 rfl trivial ?_ rfl
    simp only [Try.ntmps34, List.size_toArray, List.length_cons, List.length_nil, Nat.reduceAdd, Nat.reduceSub, Array.replicate_succ, Array.replicate_zero, List.push_toArray, List.append_toArray, List.nil_append, List.cons_append]
    gi_wp2_with (refine ⟨trivial, ?_⟩; (try refine ⟨wide_any _, ?_⟩); gi_at_call 72; refine (callsIn_wide.2 (all_any _ _ _)).mono ?_; rintro e w' ⟨rfl, rfl⟩)
    have hbx : (((w.alloc (.cells #[.int .i64 a0_0, .slice A0_1 l0_1.length c0_1] 30)).alloc (.cells #[.int .i64 0] 3)).alloc (.cells #[.int .i64 a0_0, .slice A0_1 l0_1.length c0_1] 30)).heap[w.heap.size + 1]? = some (.cells #[.int .i64 0] 3 (0, 0)) := by
      have := heap_alloc_new (w.alloc (.cells #[.int .i64 a0_0, .slice A0_1 l0_1.length c0_1] 30)) (.cells #[.int .i64 0] 3)
      rw [World.size_alloc] at this
      exact blk_alloc this _
    have hbB : (((w.alloc (.cells #[.int .i64 a0_0, .slice A0_1 l0_1.length c0_1] 30)).alloc (.cells #[.int .i64 0] 3)).alloc (.cells #[.int .i64 a0_0, .slice A0_1 l0_1.length c0_1] 30)).heap[w.heap.size + 1 + 1]? = some (.cells #[.int .i64 a0_0, .slice A0_1 l0_1.length c0_1] 30 (0, 0)) := by
      have := heap_alloc_new ((w.alloc (.cells #[.int .i64 a0_0, .slice A0_1 l0_1.length c0_1] 30)).alloc (.cells #[.int .i64 0] 3)) (.cells #[.int .i64 a0_0, .slice A0_1 l0_1.length c0_1] 30)
      rwa [World.size_alloc, World.size_alloc] at this
    have hb2 : Below w.heap.size w (((w.alloc (.cells #[.int .i64 a0_0, .slice A0_1 l0_1.length c0_1] 30)).alloc (.cells #[.int .i64 0] 3)).alloc (.cells #[.int .i64 a0_0, .slice A0_1 l0_1.length c0_1] 30)) := below_alloc (below_alloc (below_alloc (Below.refl _ _) _) _) _
    generalize ((w.alloc (.cells #[.int .i64 a0_0, .slice A0_1 l0_1.length c0_1] 30)).alloc (.cells #[.int .i64 0] 3)).alloc (.cells #[.int .i64 a0_0, .slice A0_1 l0_1.length c0_1] 30) = w2 at hbx hbB hb2 ⊢
    have hF : Kd.F k30 w2 (fun k => ¬ k = w.heap.size + 1) A0_1 l0_1.length l0_1 := Kd.F_mono (Kd.F_below (Kd.C_F k30_heap hr0_1) hb2) (fun k hk h => by omega)
    refine range_all (t := ⟨a0_0, l0_1⟩) (n := 9) rfl (fun k => k = w.heap.size + 1) A0_1 c0_1 hbB hF hc0_1 hM
      (fun S pre W => S = (fun k => k = w.heap.size + 1) ∧ W.heap[w.heap.size + 1]? = some (.cells #[.int .i64 (pre.length : Int)] 3 (0, 0)))
      ?hIc ?hIs ⟨rfl, hbx⟩ (fun S n0 p s A c As cs a W => a = { tmps := #[.agg #[.int .i64 a0_0, .slice A0_1 l0_1.length c0_1], .pointer (some ⟨w.heap.size, 0, none⟩), .int .i64 0, .pointer (some ⟨w.heap.size + 1, 0, none⟩), .agg #[.int .i64 a0_0, .slice A0_1 l0_1.length c0_1], .func (.func 103) #[] #[.pointer (some ⟨w.heap.size + 1 + 1, 0, none⟩)], .slice A p.length c, .agg #[.int .i64 s.f0, .slice As s.f1.length cs], undef, undef, undef], defers := [] }) ?hAx ?assign ?body ?done
    case hIc =>
      rintro S pre W ⟨rfl, hb⟩ k rfl
      exact ⟨_, hb, rfl⟩
    case hIs =>
      rintro S pre W W' ⟨rfl, hb⟩ hs hk
      exact ⟨rfl, (hk _ rfl (blk_lt hb)).trans hb⟩
    case hAx =>
      intro S n0 p s A c As cs a₁ W W' h _ _
      exact h
    case assign =>
      intro l m S p s A c As cs W K hK
      gi_wp2
      exact hK _ _ (Below.refl _ _) (by rfl)
    case body =>
      rintro l m S n0 pre p s A c As cs a₁ W ⟨rfl, hb⟩ hn0 hle hlen hpm hp hpc hs hsc rfl
      have hc0 : W.cell? ⟨w.heap.size + 1, 0, none⟩ = some (.int .i64 (pre.length : Int)) := (blk_cell hb 0).trans rfl
      have hf0 := blk_frozen hb 0
      have hpl : (pre.length : Int) < 1099511627776 := by omega
      have hbz := Aside0.mk hb
      clear hp hs hb
      gi_wp2
      refine ⟨_, ⟨rfl, ?_⟩, Keeps.setCell W _ _, fun k hk => .inl hk⟩
      have := blk_put hbz.out 0 (.int .i64 ((pre.length : Int) + 1)) rfl
      simpa using this
    case done =>
      rintro D S' W' ⟨rfl, hb⟩ hk _ hD hle
      have hc0 : W'.cell? ⟨w.heap.size + 1, 0, none⟩ = some (.int .i64 ((flatP [] ⟨a0_0, l0_1⟩).length : Int)) := (blk_cell hb 0).trans rfl
      have hkz := Aside0.mk hk
      have hDz := Aside0.mk hD
      clear hk hD hb
      gi_wp2
      refine ⟨by simp, .inl ⟨_, _, rfl, run_takeDeferred hDz.out, ?_⟩⟩
      refine ⟨_, results_tmp rfl _ _ _, rfl, ?_⟩
      have h1 := hkz.out.toBelow hb2.size (fun b hb => by omega)
      have h2 := hkz.out.size
      have h3 := hb2.size
      exact below_put (hb2.trans h1) (by omega) (by omega) _
  · rw [if_neg hM] at h
    cases h
end Go.Proofs.Ytpfddihcikiofaa.P
end
section
namespace Go.Proofs.Ytpfddihcikiofaa.P
open Go.RowKit Go.Proofs.YtpfddihcikiofaaW.PrintWords Go.Proofs.YtpfddihcikiofaaW.PrintLast Go.Proofs.YtpfddihcikiofaaW.PrintMore
set_option linter.unusedVariables false
set_option linter.unusedSimpArgs false
set_option maxRecDepth 100000 in
set_option maxHeartbeats 1000000 in
theorem clone_ints (A : Option Addr) (c : Nat) (l : List Int) (w : World) (hC : (Kd.int .i64).C w A l.length l) (hc : l.length ≤ c) (hl : l.length * 8 ≤ 140737488355328) :
    Calls Try.prog 73 #[.slice A l.length c] w fun e w' => ∃ v : Value, e = .returned v ∧ (Kd.int .i64).R 3 w' w.heap.size (fun _ => True) v l ∧ Below w.heap.size w w' := by
  have hnil := fun (W : World) => Lib.run_eql_slice_nil (P := Try.prog) W 25 3 A l.length c 0 0 Try.underlying25
  cases A with
  | none =>
    have h0 : l = [] := by
      rcases Nat.eq_zero_or_pos l.length with h | h
      · exact List.eq_nil_of_length_eq_zero h
      · obtain ⟨ad, e, _⟩ := hC.2.2 h
        cases e
    subst h0
    have hn0 := fun (W : World) => Lib.run_eql_slice_nil (P := Try.prog) W 25 3 none 0 c 0 0 Try.underlying25
    clear hnil
    go_enter Try.func73, Try.ntmps73
    go_wp2
    go_ret
    exact ⟨_, rfl, Kd.R_nil _ _ _ _ _, Below.refl _ _⟩
  | some ad =>
    have HC := Aside0.mk hC
    go_enter Try.func73, Try.ntmps73
    have hO : (Kd.int .i64).R 3 (w.alloc (.cells #[] 3)) w.heap.size (fun _ => True) (.slice (some ⟨w.heap.size, 0, none⟩) 0 0) [] := Kd.R_of_own (by simpa [encs] using World.ownsRow_lit (base := w.heap.size) (e := 3) (size := 1) w #[] 0 (Nat.le_refl _) (by simp [maxLen]) (by simp)) (fun _ _ => trivial)
    have HO := Aside0.mk hO
    have HB := Aside0.mk (below_alloc (Below.refl w.heap.size w) (.cells #[] 3))
    have HL := Aside0.mk hl
    clear hO hl hC
    go_wp2_with (at_builtin; refine Kd.R_append_row (w0 := w) (Value.int .i64) 0 w.heap.size rfl (.tmp 5) (.tmp 6) 25 3 (.int .i64 0) 8 rfl Try.underlying25 info3 rfl (by omega) _ [] l (some ad) l.length c (fun _ => True) rfl rfl (fun _ _ => trivial) HO.out (Kd.C_below HC.out HB.out) HB.out (by simp) (by have := HL.out; simp; omega) ?_; intro v1 w1 ho hb hg hat; have HO1 := Aside0.mk ho; have HB1 := Aside0.mk hb; clear ho hb hg hat)
    go_ret
    exact ⟨_, rfl, HO1.out, HB1.out⟩
end Go.Proofs.Ytpfddihcikiofaa.P
end
section
namespace Go.Proofs.Ytpfddihcikiofaa.P
open Go.RowKit Go.Shelf Go.Proofs.YtpfddihcikiofaaW.PrintWords Go.Proofs.YtpfddihcikiofaaW.PrintLast Go.Proofs.YtpfddihcikiofaaW.PrintMore
set_option linter.unusedVariables false
set_option linter.unusedSimpArgs false
attribute [local go_sem] Oper.semAt_some
section
variable {F : Fence} {nF : Nat} {P : Program}
theorem stepIn_append_own_at {ops : Array Oper} {o : Oper} {a : Act} {w : World} {K : Act → World → Prop} {Q : Exit → Act → World → Prop} {E : Prop} (hgd : o.guard = none) (s x : Operand) (t : TypeId)
    (ho : o.op = .call { callee := .builtin .append, args := #[s, x], argTypes := #[t, t] })
    (base : Nat) (e : TypeId) (i : TypeInfo) (z : Value) (size bytes : Nat) (ht : P.underlying t = some (.slice e)) (hi : P.info? e = some i) (hz : i.zero = some z)
    (hsize : i.size = size) (hby : i.bytes = bytes) (hzs : z.cells.size = size) (hsz : 0 < size)
    (v : Value) (n : Nat) (xs : List Value) (hs : a.eval s = v) (hown : w.ownsRow base e size v n xs)
    (ad : Addr) (m c : Nat) (news : List Value) (hx : a.eval x = .slice (some ad) m c) (hl : news.length = m * size) (hnews : ∀ j u, news[j]? = some u → w.cell? (ad.add j) = some u) (h1 : ∀ u ∈ news, u.oneCell' = true)
    (h63 : n + m ≤ maxLen) (hbytes : (n + m) * bytes ≤ 140737488355328) (hbase : base ≤ w.heap.size)
    (h : ∀ v' w', w'.ownsRow base e size v' (n + m) (xs ++ news) → w.grownBy w' v.ownBlock → (v'.ownBlock = v.ownBlock ∨ v'.ownBlock = some w.heap.size) → K (a.put o.dst v') w') :
    if Region.wanted o (yielded ops a.tmps) = true then Oper.wpIn F nF P o a w K Q else E := by
  have hw : Region.wanted o (yielded ops a.tmps) = true := by simp [Region.wanted, hgd]
  rw [if_pos hw]
  obtain ⟨v', w', hr, h2, h3, h4, h5⟩ := run_append_own_at (P := P) w base t o.type e i z size bytes ht hi hz hsize hby hzs hsz v n xs hown ad m c news hl hnews h1 h63 hbytes hbase
  unfold Oper.wpIn
  refine ⟨by simp [Oper.about, ho, resolve, Target.leads, Sem.run_pure], ?_⟩
  rw [Oper.semAt_plain F _ _ (by rw [ho]; intro c hc'; cases hc')]
  simp [execOp, ho, resolve, invoke, builtin, hs, hx, hr, Result.andThen]
  exact h v' w' h2 h3 h5
end
def term_Places.f (a0_0 : Int) (l0_1 : List S30) : Option (List (List Int)) := if (flatP [] ⟨a0_0, l0_1⟩).length ≤ 1099511627776 then some ((flatP [] ⟨a0_0, l0_1⟩).map Prod.fst) else none
def PlInv (Bl : Nat) (S : Nat → Prop) (l : List (List Int)) (W : World) : Prop :=
  ∃ (P : Nat → Prop) (A : Option Addr) (c : Nat), S = (fun k => k = Bl ∨ P k) ∧ W.heap[Bl]? = some (.cells #[.slice A l.length c] 32 (0, 0)) ∧ (Kd.slice 3 (Kd.int .i64)).R 25 W (Bl + 1) P (.slice A l.length c) l ∧
    ∀ k, P k → k ≠ Bl ∧ ∃ (q : Nat) (cells : Array Value), W.heap[k]? = some (.cells cells q (0, 0))
theorem PlInv.cells {Bl : Nat} {S : Nat → Prop} {l : List (List Int)} {W : World} (h : PlInv Bl S l W) {k : Nat} (hk : S k) : ∃ o : Obj, W.heap[k]? = some o ∧ o.isCells = true := by
  obtain ⟨P, A, c, rfl, hb, _, hP⟩ := h
  rcases hk with rfl | hk
  · exact ⟨_, hb, rfl⟩
  · obtain ⟨_, q, cells, h⟩ := hP k hk
    exact ⟨_, h, rfl⟩
theorem PlInv.step {Bl : Nat} {S : Nat → Prop} {l : List (List Int)} {W W' : World} (h : PlInv Bl S l W) (hk : ∀ k, S k → k < W.heap.size → W'.heap[k]? = W.heap[k]?) : PlInv Bl S l W' := by
  obtain ⟨P, A, c, rfl, hb, hR, hP⟩ := h
  refine ⟨P, A, c, rfl, (hk _ (.inl rfl) (blk_lt hb)).trans hb, Kd.R_step hR (fun k h hlt => hk k (.inr h) hlt), fun k h => ⟨(hP k h).1, ?_⟩⟩
  obtain ⟨_, q, cells, hc⟩ := hP k h
  exact ⟨q, cells, (hk k (.inr h) (blk_lt hc)).trans hc⟩
set_option maxRecDepth 100000 in
set_option maxHeartbeats 2000000 in
theorem term_Places.calls (a0_0 : Int) (A0_1 : Option Addr) (c0_1 : Nat) (l0_1 : List S30) (r : List (List Int)) (w : World) (hr0_1 : Kd.C k30 w A0_1 l0_1.length l0_1) (hc0_1 : l0_1.length ≤ c0_1) (h : term_Places.f a0_0 l0_1 = some r) :
    Calls Try.prog 23 #[.agg #[.int .i64 a0_0, .slice A0_1 l0_1.length c0_1]] w fun e w' => ∃ v0_ : Value, e = .returned (v0_) ∧ Kd.R (Kd.slice 3 (Kd.int .i64)) 25 w' w.heap.size (fun _ => True) v0_ r ∧ Below w.heap.size w w' := by
  unfold term_Places.f at h
  by_cases hM : (flatP [] ⟨a0_0, l0_1⟩).length ≤ 1099511627776
  · rw [if_pos hM] at h
    obtain rfl := Option.some.inj h
    clear h
    refine (callsIn_wide (n := 9)).1 ?_
    refine callsIn_of_wp_marks Try.func23 rfl trivial ?_ rfl
    simp only [Try.ntmps23, List.size_toArray, List.length_cons, List.length_nil, Nat.reduceAdd, Nat.reduceSub, Array.replicate_succ, Array.replicate_zero, List.push_toArray, List.append_toArray, List.nil_append, List.cons_append]
    gi_wp2_with (refine ⟨trivial, ?_⟩; (try refine ⟨wide_any _, ?_⟩); gi_at_call 72; refine (callsIn_wide.2 (all_any _ _ _)).mono ?_; rintro e w' ⟨rfl, rfl⟩)
    obtain ⟨W3, hW3⟩ : ∃ W, W = ((w.alloc (.cells #[.int .i64 a0_0, .slice A0_1 l0_1.length c0_1] 30)).alloc (.cells #[.slice none 0 0] 32)).alloc (.cells #[.int .i64 a0_0, .slice A0_1 l0_1.length c0_1] 30) := ⟨_, rfl⟩
    have hbx : W3.heap[w.heap.size + 1]? = some (.cells #[.slice none 0 0] 32 (0, 0)) := by
      have := heap_alloc_new (w.alloc (.cells #[.int .i64 a0_0, .slice A0_1 l0_1.length c0_1] 30)) (.cells #[.slice none 0 0] 32)
      rw [World.size_alloc] at this
      rw [hW3]
      exact blk_alloc this _
    have hbB : W3.heap[w.heap.size + 1 + 1]? = some (.cells #[.int .i64 a0_0, .slice A0_1 l0_1.length c0_1] 30 (0, 0)) := by
      have := heap_alloc_new ((w.alloc (.cells #[.int .i64 a0_0, .slice A0_1 l0_1.length c0_1] 30)).alloc (.cells #[.slice none 0 0] 32)) (.cells #[.int .i64 a0_0, .slice A0_1 l0_1.length c0_1] 30)
      rw [World.size_alloc, World.size_alloc] at this
      rw [hW3]
      exact this
    have hb2 : Below w.heap.size w W3 := by rw [hW3]; exact below_alloc (below_alloc (below_alloc (Below.refl _ _) _) _) _
    rw [← hW3]
    clear hW3
    have hF : Kd.F k30 W3 (fun k => ¬ (k = w.heap.size + 1 ∨ False)) A0_1 l0_1.length l0_1 := Kd.F_mono (Kd.F_below (Kd.C_F k30_heap hr0_1) hb2) (fun k hk h => h.elim (fun h => by omega) id)
    refine range_all (t := ⟨a0_0, l0_1⟩) (n := 9) rfl (fun k => k = w.heap.size + 1 ∨ False) A0_1 c0_1 hbB hF hc0_1 hM
      (fun S pre W => PlInv (w.heap.size + 1) S (pre.map Prod.fst) W)
      ?hIc ?hIs ⟨fun _ => False, none, 0, rfl, hbx, Kd.R_nil _ _ _ _ _, fun k h => h.elim⟩ (fun S n0 p s A c As cs a W => a = { tmps := #[.agg #[.int .i64 a0_0, .slice A0_1 l0_1.length c0_1], .pointer (some ⟨w.heap.size, 0, none⟩), .slice none 0 0, .pointer (some ⟨w.heap.size + 1, 0, none⟩), .slice A p.length c, .agg #[.int .i64 a0_0, .slice A0_1 l0_1.length c0_1], .func (.func 103) #[] #[.pointer (some ⟨w.heap.size + 1 + 1, 0, none⟩)], .slice A p.length c, .agg #[.int .i64 s.f0, .slice As s.f1.length cs], undef, undef, undef, undef, undef, undef], defers := [] }) ?hAx ?assign ?body ?done
    case hIc =>
      intro S pre W h k hk
      exact h.cells hk
    case hIs =>
      intro S pre W W' h hs hk
      exact h.step hk
    case hAx =>
      intro S n0 p s A c As cs a₁ W W' h _ _
      exact h
    case assign =>
      intro l m S p s A c As cs W K hK
      gi_wp2
      exact hK _ _ (Below.refl _ _) rfl
    case body =>
      rintro l m S n0 pre p s A c As cs a₁ W hI hn0 hle hlen hpm hp hpc hs hsc rfl
      obtain ⟨P, Au, cu, rfl, hb, hR, hP⟩ := hI
      rw [List.length_map] at hb hR
      have hmx : Try.prog.follows .mixedOrders = true := by kernel_rfl
      have hpl : p.length * 8 ≤ 140737488355328 := by omega
      have hC := Kd.F_now hp
      have hc0 : W.cell? ⟨w.heap.size + 1, 0, none⟩ = some (.slice Au pre.length cu) := (blk_cell hb 0).trans rfl
      have hf0 := blk_frozen hb 0
      have hCz := Aside0.mk hC
      have hbz := Aside0.mk hb
      have hRz := Aside0.mk hR
      have hPz := Aside0.mk hP
      obtain ⟨inner0, ho0⟩ := Kd.R_own hR
      rw [List.length_map] at ho0
      have hoz := Aside0.mk ho0
      have hW : w.heap.size + 1 < W.heap.size := blk_lt hb
      obtain ⟨i0, hi, hz0, hz1, hz2⟩ := info_parts info25
      clear hp hs hC hb hR hP ho0
      have hz : (Exit.inBlock 1 (bodyEnd (fun S pre W => PlInv (w.heap.size + 1) S (pre.map Prod.fst) W) (fun k => k = w.heap.size + 1 ∨ P k) n0 (pre ++ [(p, s)]) W)) = (Exit.inBlock 1 (bodyEnd (fun S pre W => PlInv (w.heap.size + 1) S (pre.map Prod.fst) W) (fun k => k = w.heap.size + 1 ∨ P k) n0 (pre ++ [(p, s)]) W)) := rfl
      clear hz
      have hD : ∀ (w1 : World) (v : Value), (Kd.int .i64).R 3 w1 W.heap.size (fun _ => True) v p → Below W.heap.size W w1 → wpAnyIn (Fence.wide.inRound l) m Try.prog .any #[{ dst := some 9, op := Op.load 32 (Operand.tmp 3), type := 32, pos := "term.go:86", after := #[], guard := none }, { dst := some 10, op := Op.move (Operand.tmp 4), type := 25, pos := "term.go:86", after := #[], guard := none }, { dst := some 11, op := Op.call { callee := Callee.value (Operand.func 73), args := #[Operand.tmp 10], argTypes := #[25] }, type := 25, pos := "term.go:86", after := #[{ on := 1, ground := Ground.data }], guard := none }, { dst := some 12, op := Op.buildSlice 32 1 #[(0, Operand.tmp 11)], type := 32, pos := "term.go:86", after := #[{ on := 2, ground := Ground.data }], guard := none }, { dst := some 13, op := Op.call { callee := Callee.builtin Builtin.append, args := #[Operand.tmp 9, Operand.tmp 12], argTypes := #[32, 32] }, type := 32, pos := "term.go:86", after := #[{ on := 0, ground := Ground.data }, { on := 3, ground := Ground.data }, { on := 2, ground := Ground.chain }], guard := none }, { dst := none, op := Op.store 32 (Operand.tmp 3) (Operand.tmp 13), type := 0, pos := "term.go:86", after := #[{ on := 4, ground := Ground.data }, { on := 4, ground := Ground.chain }, { on := 0, ground := Ground.phase }, { on := 1, ground := Ground.phase }, { on := 2, ground := Ground.phase }, { on := 3, ground := Ground.phase }, { on := 4, ground := Ground.phase }], guard := none }] (Exit.inBlock 1 (bodyEnd (fun S pre W => PlInv (w.heap.size + 1) S (pre.map Prod.fst) W) (fun k => k = w.heap.size + 1 ∨ P k) n0 (pre ++ [(p, s)]) W)) 2 #[true, true, true, true, false, false] { tmps := #[.agg #[.int .i64 a0_0, .slice A0_1 l0_1.length c0_1], .pointer (some ⟨w.heap.size, 0, none⟩), .slice none 0 0, .pointer (some ⟨w.heap.size + 1, 0, none⟩), .slice A p.length c, .agg #[.int .i64 a0_0, .slice A0_1 l0_1.length c0_1], .func (.func 103) #[] #[.pointer (some ⟨w.heap.size + 1 + 1, 0, none⟩)], .slice A p.length c, .agg #[.int .i64 s.f0, .slice As s.f1.length cs], .slice Au pre.length cu, .slice A p.length c, v, .slice (some ⟨w1.heap.size, 0, none⟩) 1 1, undef, undef], defers := [] } (w1.alloc (.cells #[v] 25)) := by
        intro w1 v hv hbv
        have hR1 := Kd.R_mono (Kd.R_below (Kd.R_below hRz.out hbv) (below_alloc (Below.refl _ _) (.cells #[v] 25))) (ok' := fun k => P k ∨ W.heap.size ≤ k) (fun k hk => .inl hk)
        have hv1 := Kd.R_lower (Kd.R_mono (Kd.R_bound (Kd.R_below hv (below_alloc (Below.refl _ _) (.cells #[v] 25)))) (ok' := fun k => W.heap.size ≤ k) (fun k hk => hk.2.1)) (show w.heap.size + 1 + 1 ≤ W.heap.size from hW)
        have hb1 : (w1.alloc (.cells #[v] 25)).heap[w.heap.size + 1]? = some (.cells #[.slice Au pre.length cu] 32 (0, 0)) := blk_alloc (blk_below hbz.out hbv) _
        have hbv1 : Below W.heap.size W (w1.alloc (.cells #[v] 25)) := below_alloc hbv _
        have hsz1 : (w1.alloc (.cells #[v] 25)).heap.size = w1.heap.size + 1 := by simp
        have hN1 : (w1.alloc (.cells #[v] 25)).heap[w1.heap.size]? = some (.cells #[v] 25 (0, 0)) := heap_alloc_new _ _
        have hs1 := hbv.size
        generalize w1.alloc (.cells #[v] 25) = w2 at hR1 hv1 hb1 hbv1 hsz1 hN1 ⊢
        obtain ⟨Av, cv, rfl⟩ := Kd.R_slice hv1
        obtain ⟨h0, inner, ho, hr⟩ := hR1
        rw [List.length_map] at ho
        refine wpAnyIn_ready (rs := [4]) (by kernel_rfl) (by simp) (AllReadyIn.cons rfl (fun K hK => ?_) AllReadyIn.nil)
        refine stepIn_append_own_at rfl (.tmp 9) (.tmp 12) 32 rfl (w.heap.size + 1 + 1) 25 i0 (.slice none 0 0) 1 24 Try.underlying32 hi hz0 hz1 hz2 rfl (by decide) _ pre.length inner rfl ho ⟨w1.heap.size, 0, none⟩ 1 1 [.slice Av p.length cv] rfl rfl ?hnews (by intro u hu; simp at hu; subst hu; rfl) (by simp only [maxLen]; omega) (by omega) (by omega) ?_
        case hnews =>
          intro j u hu
          cases j with
          | zero =>
            simp at hu
            subst hu
            rw [add_plain]
            exact (blk_cell hN1 0).trans rfl
          | succ j => simp at hu
        intro v2 w3 ho2 hg hat
        have hat' : v2.ownBlock = (Value.slice Au pre.length cu).ownBlock ∨ ∃ b, v2.ownBlock = some b ∧ w2.heap.size ≤ b := hat.imp_right (fun h => ⟨_, h, Nat.le_refl _⟩)
        have hR3 := Kd.R_appended (d := Kd.slice 3 (Kd.int .i64)) (e := 25) (p := p) (cs := [.slice Av p.length cv]) (okp := fun k => W.heap.size ≤ k) h0 hr ⟨_, rfl, hv1⟩ (fun k hk => ⟨.inr hk, fun e => by have := own_lt hoz.out k e.symm; omega⟩) (fun k hk => .inr (by omega)) (by rw [List.length_map]; exact ho2) hg hat'
        obtain ⟨g', cap', rfl⟩ := ownsRow_succ ho2
        have hne : some (w.heap.size + 1) ≠ (Value.slice Au pre.length cu).ownBlock := fun e => by have := own_base hoz.out _ e.symm; omega
        have hb3 := blk_grown hb1 hg hne
        have hc3 : w3.cell? ⟨w.heap.size + 1, 0, none⟩ = some (.slice Au pre.length cu) := (blk_cell hb3 0).trans rfl
        have hf3 := blk_frozen hb3 0
        have hz1 := Aside0.mk hR3
        have hz2 := Aside0.mk hb3
        have hz3 := Aside0.mk hg
        have hz4 := Aside0.mk hbv1
        clear hR3 hb3 hg hbv1 hat hat' ho2 h0 hr hv1 hv ho hb1 hN1 hbv
        refine hK _ _ ?_
        refine wpAnyIn_ready (rs := [5]) (by kernel_rfl) (by simp) (AllReadyIn.cons rfl (fun K hK => ?_) AllReadyIn.nil)
        go_simp
        refine hK _ _ ?_
        refine wpAnyIn_done (by kernel_rfl) ?_ _
        have hk1 : Keeps W w3 (fun k => k = w.heap.size + 1 ∨ P k) := (Keeps.of_below hz4.out _).trans ⟨hz3.out.os, hz3.out.tape, hz3.out.output, hz3.out.size, fun k hk hn => hz3.out.block k hk (fun e => hn e.symm)⟩ (S' := fun k => (Value.slice Au pre.length cu).ownBlock = some k) (fun b hb => .inl (.inr (hRz.out.1 b hb)))
        obtain ⟨P', hP', hR4⟩ : ∃ P' : Nat → Prop, (∀ k, P' k → (P k ∨ W.heap.size ≤ k) ∧ w.heap.size + 1 + 1 ≤ k ∧ k < w3.heap.size ∧ ∃ q, q ∈ 25 :: (Kd.slice 3 (Kd.int .i64)).E ∧ ∃ cells, w3.heap[k]? = some (.cells cells q (0, 0))) ∧ (Kd.slice 3 (Kd.int .i64)).R 25 w3 (w.heap.size + 1 + 1) P' (.slice (some ⟨g', 0, none⟩) (pre.length + 1) cap') (pre.map Prod.fst ++ [p]) := ⟨_, fun k h => h, Kd.R_bound hz1.out⟩
        have hR5 := Kd.R_far (p := ⟨w.heap.size + 1, 0, none⟩) hR4 (fun k hk (e : k = w.heap.size + 1) => by have := (hP' k hk).2.1; omega) (.slice (some ⟨g', 0, none⟩) (pre.length + 1) cap')
        refine ⟨_, ⟨P', some ⟨g', 0, none⟩, cap', rfl, ?_, ?_, ?_⟩, hk1.trans (Keeps.setCell w3 _ _) (fun b h => .inl (.inl h)), ?_⟩
        rotate_left
        · simpa using hR5
        · intro k hk
          obtain ⟨h1, h2, h3, q, hq, cells, hc⟩ := hP' k hk
          refine ⟨by omega, q, cells, ?_⟩
          exact blk_far hc (p := ⟨w.heap.size + 1, 0, none⟩) (by show k ≠ w.heap.size + 1; omega) _
        · rintro k (hk | hk)
          · exact .inl (.inl hk)
          · rcases (hP' k hk).1 with h | h
            · exact .inl (.inr h)
            · exact .inr (by omega)
        · have := blk_put hz2.out 0 (.slice (some ⟨g', 0, none⟩) (pre.length + 1) cap') rfl
          simpa using this
      have hB : ∀ (w1 : World) (v : Value), (Kd.int .i64).R 3 w1 W.heap.size (fun _ => True) v p → Below W.heap.size W w1 → wpAnyIn (Fence.wide.inRound l) m Try.prog .any #[{ dst := some 9, op := Op.load 32 (Operand.tmp 3), type := 32, pos := "term.go:86", after := #[], guard := none }, { dst := some 10, op := Op.move (Operand.tmp 4), type := 25, pos := "term.go:86", after := #[], guard := none }, { dst := some 11, op := Op.call { callee := Callee.value (Operand.func 73), args := #[Operand.tmp 10], argTypes := #[25] }, type := 25, pos := "term.go:86", after := #[{ on := 1, ground := Ground.data }], guard := none }, { dst := some 12, op := Op.buildSlice 32 1 #[(0, Operand.tmp 11)], type := 32, pos := "term.go:86", after := #[{ on := 2, ground := Ground.data }], guard := none }, { dst := some 13, op := Op.call { callee := Callee.builtin Builtin.append, args := #[Operand.tmp 9, Operand.tmp 12], argTypes := #[32, 32] }, type := 32, pos := "term.go:86", after := #[{ on := 0, ground := Ground.data }, { on := 3, ground := Ground.data }, { on := 2, ground := Ground.chain }], guard := none }, { dst := none, op := Op.store 32 (Operand.tmp 3) (Operand.tmp 13), type := 0, pos := "term.go:86", after := #[{ on := 4, ground := Ground.data }, { on := 4, ground := Ground.chain }, { on := 0, ground := Ground.phase }, { on := 1, ground := Ground.phase }, { on := 2, ground := Ground.phase }, { on := 3, ground := Ground.phase }, { on := 4, ground := Ground.phase }], guard := none }] (Exit.inBlock 1 (bodyEnd (fun S pre W => PlInv (w.heap.size + 1) S (pre.map Prod.fst) W) (fun k => k = w.heap.size + 1 ∨ P k) n0 (pre ++ [(p, s)]) W)) 3 #[true, true, true, false, false, false] { tmps := #[.agg #[.int .i64 a0_0, .slice A0_1 l0_1.length c0_1], .pointer (some ⟨w.heap.size, 0, none⟩), .slice none 0 0, .pointer (some ⟨w.heap.size + 1, 0, none⟩), .slice A p.length c, .agg #[.int .i64 a0_0, .slice A0_1 l0_1.length c0_1], .func (.func 103) #[] #[.pointer (some ⟨w.heap.size + 1 + 1, 0, none⟩)], .slice A p.length c, .agg #[.int .i64 s.f0, .slice As s.f1.length cs], .slice Au pre.length cu, .slice A p.length c, v, undef, undef, undef], defers := [] } w1 := by
        intro w1 v hv hbv
        obtain ⟨Av, cv, rfl⟩ := Kd.R_slice hv
        refine wpAnyIn_ready (rs := [3]) (by kernel_rfl) (by simp) (AllReadyIn.cons rfl (fun K hK => ?_) AllReadyIn.nil)
        go_simp
        exact hK _ _ (hD w1 _ hv hbv)
      have hC01 : wpAnyIn (Fence.wide.inRound l) m Try.prog .any #[{ dst := some 9, op := Op.load 32 (Operand.tmp 3), type := 32, pos := "term.go:86", after := #[], guard := none }, { dst := some 10, op := Op.move (Operand.tmp 4), type := 25, pos := "term.go:86", after := #[], guard := none }, { dst := some 11, op := Op.call { callee := Callee.value (Operand.func 73), args := #[Operand.tmp 10], argTypes := #[25] }, type := 25, pos := "term.go:86", after := #[{ on := 1, ground := Ground.data }], guard := none }, { dst := some 12, op := Op.buildSlice 32 1 #[(0, Operand.tmp 11)], type := 32, pos := "term.go:86", after := #[{ on := 2, ground := Ground.data }], guard := none }, { dst := some 13, op := Op.call { callee := Callee.builtin Builtin.append, args := #[Operand.tmp 9, Operand.tmp 12], argTypes := #[32, 32] }, type := 32, pos := "term.go:86", after := #[{ on := 0, ground := Ground.data }, { on := 3, ground := Ground.data }, { on := 2, ground := Ground.chain }], guard := none }, { dst := none, op := Op.store 32 (Operand.tmp 3) (Operand.tmp 13), type := 0, pos := "term.go:86", after := #[{ on := 4, ground := Ground.data }, { on := 4, ground := Ground.chain }, { on := 0, ground := Ground.phase }, { on := 1, ground := Ground.phase }, { on := 2, ground := Ground.phase }, { on := 3, ground := Ground.phase }, { on := 4, ground := Ground.phase }], guard := none }] (Exit.inBlock 1 (bodyEnd (fun S pre W => PlInv (w.heap.size + 1) S (pre.map Prod.fst) W) (fun k => k = w.heap.size + 1 ∨ P k) n0 (pre ++ [(p, s)]) W)) 4 #[true, true, false, false, false, false] { tmps := #[.agg #[.int .i64 a0_0, .slice A0_1 l0_1.length c0_1], .pointer (some ⟨w.heap.size, 0, none⟩), .slice none 0 0, .pointer (some ⟨w.heap.size + 1, 0, none⟩), .slice A p.length c, .agg #[.int .i64 a0_0, .slice A0_1 l0_1.length c0_1], .func (.func 103) #[] #[.pointer (some ⟨w.heap.size + 1 + 1, 0, none⟩)], .slice A p.length c, .agg #[.int .i64 s.f0, .slice As s.f1.length cs], .slice Au pre.length cu, .slice A p.length c, undef, undef, undef, undef], defers := [] } W.drew := by
        refine wpAnyIn_ready (rs := [2]) (by kernel_rfl) (by simp) (AllReadyIn.cons rfl (fun K hK => ?_) AllReadyIn.nil)
        go_simp
        refine ⟨trivial, ?_⟩
        (try refine ⟨wide_any _, ?_⟩)
        gi_at_call 73
        refine (CallsIn.inRound l (callsIn_wide.2 (clone_ints A c p W.drew (Kd.C_below hCz.out (pw_below_drewN (Below.refl _ _) 1)) hpc hpl))).mono ?_
        rintro e w1 ⟨v, rfl, hv, hbv⟩
        go_simp
        exact hK _ _ (hB _ _ hv ((pw_below_drewN (Below.refl _ _) 1).trans hbv))
      gi_wp2
      refine wpIn_region_any hmx ?_
      change wpAnyIn _ _ _ _ _ _ _ _ _ (World.drew _)
      refine wpAnyIn_ready (rs := [0, 1]) (by kernel_rfl) (by simp) (AllReadyIn.cons rfl (fun K hK => ?_) (AllReadyIn.cons rfl (fun K hK => ?_) AllReadyIn.nil))
      · go_simp
        refine hK _ _ ?_
        refine wpAnyIn_ready (rs := [1]) (by kernel_rfl) (by simp) (AllReadyIn.cons rfl (fun K hK => ?_) AllReadyIn.nil)
        go_simp
        exact hK _ _ hC01
      · go_simp
        refine hK _ _ ?_
        refine wpAnyIn_ready (rs := [0, 2]) (by kernel_rfl) (by simp) (AllReadyIn.cons rfl (fun K hK => ?_) (AllReadyIn.cons rfl (fun K hK => ?_) AllReadyIn.nil))
        · go_simp
          exact hK _ _ hC01
        · go_simp
          refine ⟨trivial, ?_⟩
          (try refine ⟨wide_any _, ?_⟩)
          gi_at_call 73
          refine (CallsIn.inRound l (callsIn_wide.2 (clone_ints A c p W.drew (Kd.C_below hCz.out (pw_below_drewN (Below.refl _ _) 1)) hpc hpl))).mono ?_
          rintro e w1 ⟨v, rfl, hv, hbv⟩
          have hbv : Below W.heap.size W w1 := (pw_below_drewN (Below.refl _ _) 1).trans hbv
          obtain ⟨Av, cv, rfl⟩ := Kd.R_slice hv
          have hc1 : w1.cell? ⟨w.heap.size + 1, 0, none⟩ = some (.slice Au pre.length cu) := (blk_cell (blk_below hbz.out hbv) 0).trans rfl
          have hBz := Aside0.mk hB
          have hDz := Aside0.mk hD
          have hvz := Aside0.mk hv
          have hbvz := Aside0.mk hbv
          clear hB hD hv hbv
          go_simp
          refine hK _ _ ?_
          refine wpAnyIn_ready (rs := [0, 3]) (by kernel_rfl) (by simp) (AllReadyIn.cons rfl (fun K hK => ?_) (AllReadyIn.cons rfl (fun K hK => ?_) AllReadyIn.nil))
          · go_simp
            exact hK _ _ (hBz.out w1 _ hvz.out hbvz.out)
          · go_simp
            refine hK _ _ ?_
            have hc2 : (w1.alloc (.cells #[.slice Av p.length cv] 25)).cell? ⟨w.heap.size + 1, 0, none⟩ = some (.slice Au pre.length cu) := (blk_cell (blk_alloc (blk_below hbz.out hbvz.out) _) 0).trans rfl
            refine wpAnyIn_ready (rs := [0]) (by kernel_rfl) (by simp) (AllReadyIn.cons rfl (fun K hK => ?_) AllReadyIn.nil)
            go_simp
            exact hK _ _ (hDz.out w1 _ hvz.out hbvz.out)
    case done =>
      rintro D S' W' ⟨P, Au, cu, rfl, hb, hR, hP⟩ hk _ hD hle
      rw [List.length_map] at hb hR
      have hc0 : W'.cell? ⟨w.heap.size + 1, 0, none⟩ = some (.slice Au (flatP [] ⟨a0_0, l0_1⟩).length cu) := (blk_cell hb 0).trans rfl
      have hkz := Aside0.mk hk
      have hDz := Aside0.mk hD
      have hRz := Aside0.mk hR
      have hPz := Aside0.mk hP
      clear hk hD hb hR hP
      gi_wp2
      refine ⟨by simp, .inl ⟨_, _, rfl, run_takeDeferred hDz.out, ?_⟩⟩
      refine ⟨_, results_tmp rfl _ _ _, _, rfl, ?_, ?_⟩
      · refine Kd.R_mono (Kd.R_lower (Kd.R_step hRz.out (w1 := W'.putObj D (.deferred none)) (fun k hk _ => World.putObj_heap_other (fun e => ?_))) (show w.heap.size ≤ w.heap.size + 1 + 1 by omega)) (fun _ _ => trivial)
        subst e
        obtain ⟨_, q, cells, h3⟩ := hPz.out _ hk
        have h4 := hDz.out
        rw [h3] at h4
        cases h4
      · have h1 := hkz.out.toBelow hb2.size (fun b hb => hb.elim (fun h => by omega) False.elim)
        have h2 := hkz.out.size
        have h3 := hb2.size
        exact below_put (hb2.trans h1) (by omega) (by omega) _
  · rw [if_neg hM] at h
    cases h
end Go.Proofs.Ytpfddihcikiofaa.P
end
section
namespace Go.Proofs.Ytpfddihcikiofaa.P
open Go.RowKit Go.Proofs.YtpfddihcikiofaaW.PrintWords Go.Proofs.YtpfddihcikiofaaW.PrintLast Go.Proofs.YtpfddihcikiofaaW.PrintMore
attribute [local go_sem] max2_int min2_int max_two min_two max_three min_three max_four min_four
set_option linter.unusedVariables false
set_option linter.unusedSimpArgs false
def soriteslaw06_alive.f  : Option (Bool) := (some (([(⟨(-1), ([] : List (S30))⟩ : S30), (⟨2, ([] : List (S30))⟩ : S30)] : List (S30)) : List (S30))).bind fun y101 => ((term_Places.f 1 y101).bind fun t105 => (if (t105.length : Int) = 3 then (if 0 < (t105.length : Int) then (if ((rd_L2 t105 0).length : Int) = 0 then (if 2 < (t105.length : Int) then (if 0 < ((rd_L2 t105 2).length : Int) then (if (rd (rd_L2 t105 2) 0) = 1 then ((term_Size.f 1 y101).bind fun t111 => (some (t111 == 3))) else (some false)) else (none)) else (none)) else (some false)) else (none)) else (some false)))
set_option maxHeartbeats 8000000 in
set_option maxRecDepth 100000 in
theorem soriteslaw06_alive.calls  (r : Bool) (w : World) (h : soriteslaw06_alive.f  = some r) :
    Calls Try.prog 20 #[] w fun e w' => e = .returned (.bool r) ∧ Below w.heap.size w w' := by
  have hu30 := Try.underlying30
  have HB := Aside0.mk (Below.refl w.heap.size w)
  have H : ((some (([(⟨(-1), ([] : List (S30))⟩ : S30), (⟨2, ([] : List (S30))⟩ : S30)] : List (S30)) : List (S30))).bind fun y101 => ((term_Places.f 1 y101).bind fun t105 => (if (t105.length : Int) = 3 then (if 0 < (t105.length : Int) then (if ((rd_L2 t105 0).length : Int) = 0 then (if 2 < (t105.length : Int) then (if 0 < ((rd_L2 t105 2).length : Int) then (if (rd (rd_L2 t105 2) 0) = 1 then ((term_Size.f 1 y101).bind fun t111 => (some (t111 == 3))) else (some false)) else (none)) else (none)) else (some false)) else (none)) else (some false)))) = some r := h
  clear h
  obtain ⟨y101, hy101⟩ : ∃ y_ : List (S30), y_ = (([(⟨(-1), ([] : List (S30))⟩ : S30), (⟨2, ([] : List (S30))⟩ : S30)] : List (S30))) := ⟨_, rfl⟩
  replace H : ((term_Places.f 1 y101).bind fun t105 => (if (t105.length : Int) = 3 then (if 0 < (t105.length : Int) then (if ((rd_L2 t105 0).length : Int) = 0 then (if 2 < (t105.length : Int) then (if 0 < ((rd_L2 t105 2).length : Int) then (if (rd (rd_L2 t105 2) 0) = 1 then ((term_Size.f 1 y101).bind fun t111 => (some (t111 == 3))) else (some false)) else (none)) else (none)) else (some false)) else (none)) else (some false))) = some r := by first | (rw [hy101]; with_reducible exact H) | (have H2_ := (Option.bind_some _ _).symm.trans H; rw [hy101]; with_reducible exact H2_) | (have H2_ := (Option.bind_some _ _).symm.trans H; with_reducible exact H2_) | with_reducible exact H | (rw [hy101]; exact H) | exact H
  have Ny101 := Aside0.mk hy101
  clear hy101
  replace H := Option.bind_eq_some_iff.mp H
  obtain ⟨t105, A10, H⟩ := H
  replace H : (if (t105.length : Int) = 3 then (if 0 < (t105.length : Int) then (if ((rd_L2 t105 0).length : Int) = 0 then (if 2 < (t105.length : Int) then (if 0 < ((rd_L2 t105 2).length : Int) then (if (rd (rd_L2 t105 2) 0) = 1 then ((term_Size.f 1 y101).bind fun t111 => (some (t111 == 3))) else (some false)) else (none)) else (none)) else (some false)) else (none)) else (some false)) = some r := H
  have A1 := Aside0.mk A10
  clear A10
  by_cases c2 : (t105.length : Int) = 3
  · rw [if_pos c2] at H
    have c2b0 : ((t105.length : Int) == 3) = true := beq_iff_eq.mpr c2
    have c2b1 : ((t105.length : Int) != 3) = false := bne_eq_false_iff_eq.mpr c2
    clear c2
    by_cases c3 : 0 < (t105.length : Int)
    · rw [if_pos c3] at H
      have c3b0 : decide (0 < (t105.length : Int)) = true := decide_eq_true c3
      have c3b1 : decide (0 < t105.length) = true := decide_eq_true (by omega)
      clear c3
      by_cases c4 : ((rd_L2 t105 0).length : Int) = 0
      · rw [if_pos c4] at H
        have c4b0 : (((rd_L2 t105 0).length : Int) == 0) = true := beq_iff_eq.mpr c4
        have c4b1 : (((rd_L2 t105 0).length : Int) != 0) = false := bne_eq_false_iff_eq.mpr c4
        clear c4
        by_cases c5 : 2 < (t105.length : Int)
        · rw [if_pos c5] at H
          have c5b0 : decide (2 < (t105.length : Int)) = true := decide_eq_true c5
          have c5b1 : decide (2 < t105.length) = true := decide_eq_true (by omega)
          clear c5
          by_cases c6 : 0 < ((rd_L2 t105 2).length : Int)
          · rw [if_pos c6] at H
            have c6b0 : decide (0 < ((rd_L2 t105 2).length : Int)) = true := decide_eq_true c6
            have c6b1 : decide (0 < (rd_L2 t105 2).length) = true := decide_eq_true (by omega)
            clear c6
            by_cases c7 : (rd (rd_L2 t105 2) 0) = 1
            · rw [if_pos c7] at H
              have c7b0 : ((rd (rd_L2 t105 2) 0) == 1) = true := beq_iff_eq.mpr c7
              have c7b1 : ((rd (rd_L2 t105 2) 0) != 1) = false := bne_eq_false_iff_eq.mpr c7
              clear c7
              replace H := Option.bind_eq_some_iff.mp H
              obtain ⟨t111, A80, H⟩ := H
              replace H : (some (t111 == 3)) = some r := H
              have A8 := Aside0.mk A80
              clear A80
              obtain rfl := Option.some.inj H
              go_enter Try.func20, Try.ntmps20
              go_wp2_with (first | ((with_reducible refine gate_dst (N := 5) rfl ?_); (try (refine gate_guard (by rfl) ?_; dsimp only)); refine Kd.R_lit k30 _ 30 ?hg (N := 5) ?hd (xs := ([(⟨(-1), ([] : List (S30))⟩ : S30), (⟨2, ([] : List (S30))⟩ : S30)] : List (S30))) (inner := [.int .i64 (-1), .slice none 0 0, .int .i64 2, .slice none 0 0]) (ok := fun _ => True) (okp := fun _ => True) ?hr ?hp (fun _ hk => hk) trivial (Below.refl _ _) (Nat.le_refl _) (by simp) ?_; (case hd => rfl); (case hg => rfl); (case hr => first | (go_simp; done) | (go_simp; rfl)); (case hp => exact (Reps.c2 (show Kd.M k30 _ _ _ (⟨(-1), ([] : List (S30))⟩ : S30) [.int .i64 (-1), .slice none 0 0] from (k30_mkM _ _ _ (⟨(-1), ([] : List (S30))⟩ : S30) (Kd.R_nil _ _ _ _ _))) (Reps.c2 (show Kd.M k30 _ _ _ (⟨2, ([] : List (S30))⟩ : S30) [.int .i64 2, .slice none 0 0] from (k30_mkM _ _ _ (⟨2, ([] : List (S30))⟩ : S30) (Kd.R_nil _ _ _ _ _))) (Reps.none _ _)))); intro v102 w9 ho10 hb hg_ hnew_; clear hg_ hnew_; (first | rw [← Ny101.out] at ho10 | (simp only [Int.reduceToNat] at ho10; rw [← Ny101.out] at ho10)); have n0_ := Aside0.mk (Kd.R_lower ho10 (below_size (by repeat (first | (with_reducible first | exact HB.out | apply below_alloc | apply pw_below_drewN | apply below_drew1) | exact HB.out)))); have n1_ := Aside0.mk (below_step (by repeat (first | (with_reducible first | exact HB.out | apply below_alloc | apply pw_below_drewN | apply below_drew1) | exact HB.out)) hb); clear HB; have HO103 := n0_; have HB := n1_; clear n0_ n1_; clear hb ho10; obtain ⟨Ao11, co11, eo11⟩ := Kd.R_slice HO103.out; subst eo11) | ((with_reducible refine gate_dst (N := 1) rfl ?_); (try (refine gate_guard (by rfl) ?_; dsimp only)); refine box_event ?hg (N := 1) ?hd (cs := #[.int .i64 0, .slice none 0 0]) (t := 30) ?hr ?_; (case hd => rfl); (case hg => rfl); (case hr => first | (go_simp; done) | (go_simp; rfl)); intro gb104 hg w12 hbox hb; have n0_ := Aside0.mk (Kd.R_below (Kd.R_elderB (by (with_reducible repeat (first | apply Kd.R_alloc | apply Kd.R_drewN | apply Kd.R_drew)); exact HO103.out) gb104 (Nat.le_of_eq hg.symm)) hb); have n1_ := Aside0.mk (below_step (by repeat (first | (with_reducible first | exact HB.out | apply below_alloc | apply pw_below_drewN | apply below_drew1) | exact HB.out)) hb); have n2_ := Aside0.mk (hbox); have n3_ := Aside0.mk ((by rw [hg]; exact (below_size (by repeat (first | (with_reducible first | exact HB.out | apply below_alloc | apply pw_below_drewN | apply below_drew1) | exact HB.out))) : w.heap.size ≤ gb104)); have n4_ := Aside0.mk ((by rw [hg]; exact (below_size (by repeat (first | (with_reducible first | exact HB.out | apply below_alloc | apply pw_below_drewN | apply below_drew1) | exact HB.out))) : w.heap.size ≤ gb104)); clear HO103; clear HB; have HO103 := n0_; have HB := n1_; have BK104 := n2_; have GW104 := n3_; have GE104 := n4_; clear n0_ n1_ n2_ n3_ n4_; clear hb hbox hg; have hcz13_0 : w12.cell? ⟨gb104, 0, none⟩ = some (.int .i64 0) := (blk_cell BK104.out 0).trans rfl; have hcz13_1 : w12.cell? ⟨gb104, 1, none⟩ = some (.slice none 0 0) := (blk_cell BK104.out 1).trans rfl; have hfz13_0 := blk_frozen BK104.out 0; have hfz13_1 := blk_frozen BK104.out 1) | (go_at_call 23; (with_reducible refine (term_Places.calls 1 _ _ y101 t105 _ ?side1 ?side2 A1.out).mono ?_); (case side1 => refine (Kd.R_reads' (e := 30) (base := w.heap.size) (ok := fun k_ => (True ∧ k_ ≠ gb104)) (n := y101.length) (c := co11) ?_).2.2; exact (by (with_reducible repeat (first | apply Kd.R_alloc | apply Kd.R_drewN | apply Kd.R_drew)); exact (Kd.R_mono (Kd.R_far (p := ⟨gb104, 1, none⟩) (Kd.R_far (p := ⟨gb104, 0, none⟩) (Kd.R_mono HO103.out (fun k_ hk => (⟨hk, hk.2⟩ : _ ∧ k_ ≠ gb104))) (fun _ hk => hk.2) (.int .i64 1)) (fun _ hk => hk.2) (.slice Ao11 y101.length co11)) (fun _ h_ => h_.1)))); (case side2 => exact (Kd.R_reads' HO103.out).2.1); rintro e w14 ⟨v106, rfl, ho0, hb⟩; have n0_ := Aside0.mk (Kd.R_below (by (with_reducible repeat (first | apply Kd.R_alloc | apply Kd.R_drewN | apply Kd.R_drew)); exact (Kd.R_mono (Kd.R_far (p := ⟨gb104, 1, none⟩) (Kd.R_far (p := ⟨gb104, 0, none⟩) (Kd.R_mono HO103.out (fun k_ hk => (⟨hk, hk.2⟩ : _ ∧ k_ ≠ gb104))) (fun _ hk => hk.2) (.int .i64 1)) (fun _ hk => hk.2) (.slice Ao11 y101.length co11)) (fun _ h_ => h_.1))) hb); have n1_ := Aside0.mk (Kd.R_lower ho0 (below_size (by repeat (first | (with_reducible first | exact HB.out | apply below_alloc | apply pw_below_drewN | apply below_drew1 | refine below_set ?_ GE104.out) | exact HB.out)))); have n2_ := Aside0.mk (blk_below (g := gb104) (o := .cells #[.int .i64 1, .slice Ao11 y101.length co11] 30 (0, 0)) (by (with_reducible repeat (first | refine blk_drewN ?_ _ | refine blk_drew ?_ | refine blk_alloc ?_ _)); refine blk_put (cs := #[.int .i64 1, .slice none 0 0]) ?_ 1 _ rfl; (with_reducible repeat (first | refine blk_drewN ?_ _ | refine blk_drew ?_ | refine blk_alloc ?_ _)); refine blk_put (cs := #[.int .i64 0, .slice none 0 0]) ?_ 0 _ rfl; (with_reducible repeat (first | refine blk_drewN ?_ _ | refine blk_drew ?_ | refine blk_alloc ?_ _)); exact BK104.out) hb); have n3_ := Aside0.mk (below_step (by repeat (first | (with_reducible first | exact HB.out | apply below_alloc | apply pw_below_drewN | apply below_drew1 | refine below_set ?_ GE104.out) | exact HB.out)) hb); clear HO103; clear BK104; clear HB; have HO103 := n0_; have HO107 := n1_; have BK104 := n2_; have HB := n3_; clear n0_ n1_ n2_ n3_; (try clear hb); (try clear hb2); (try clear hk); (try clear hi); (try clear ho0); obtain ⟨Ao15, co15, eo15⟩ := Kd.R_slice HO107.out; subst eo15; have p108 : 0 ≤ (0 : Int) := (by omega); have q108 : 0 < (t105.length : Int) := of_decide_eq_true (by first | (with_reducible assumption) | assumption); obtain ⟨ad108, A108_0, c108_0, e108, hx108_0, hl108_0, hi108_0⟩ := at_L2 (Kd.R_reads' HO107.out).2.2 0 p108 q108; cases e108; obtain ⟨ce108, hce108, hMe108, hcc108⟩ := Kd.R_get HO107.out [] 0 p108 (by first | exact q108 | exact of_decide_eq_true (by first | (with_reducible assumption) | assumption) | (have e_ := (Kd.R_reads' HO107.out).1; omega)); obtain ⟨ve108_0, rfl, ge108_0⟩ := hMe108; have hv108_0 := hcc108 0 _ rfl; rw [Nat.add_zero, show ((Kd.slice 3 (Kd.int .i64))).sz = 1 from rfl, Nat.mul_one] at hv108_0; replace hv108_0 := Option.some.inj (hv108_0.symm.trans hx108_0); rw [hv108_0] at ge108_0; have HL108_0 := Aside0.mk (show Kd.R (Kd.int .i64) 3 _ _ _ _ (rd_L2 t105 0) from ge108_0); clear hv108_0 ge108_0; clear hcc108 hce108; have qi108 : (0 < t105.length) = True := eq_true (by omega); (try rw [show ((0 : Int)).toNat = 0 from rfl] at hx108_0); (try rw [Addr.add_zero'] at hx108_0); have HR108_0 := Aside0.mk hi108_0; have HC108_0 := Aside0.mk hl108_0; clear hi108_0 hl108_0; replace p108 := eq_true p108; replace q108 := eq_true q108; have p109 : 0 ≤ (2 : Int) := (by omega); have q109 : 2 < (t105.length : Int) := of_decide_eq_true (by first | (with_reducible assumption) | assumption); obtain ⟨ad109, A109_0, c109_0, e109, hx109_0, hl109_0, hi109_0⟩ := at_L2 (Kd.R_reads' HO107.out).2.2 2 p109 q109; obtain rfl : ad108 = ad109 := (by injection e109); obtain ⟨ce109, hce109, hMe109, hcc109⟩ := Kd.R_get HO107.out [] 2 p109 (by first | exact q109 | exact of_decide_eq_true (by first | (with_reducible assumption) | assumption) | (have e_ := (Kd.R_reads' HO107.out).1; omega)); obtain ⟨ve109_0, rfl, ge109_0⟩ := hMe109; have hv109_0 := hcc109 0 _ rfl; rw [Nat.add_zero, show ((Kd.slice 3 (Kd.int .i64))).sz = 1 from rfl, Nat.mul_one] at hv109_0; replace hv109_0 := Option.some.inj (hv109_0.symm.trans hx109_0); rw [hv109_0] at ge109_0; have HL109_0 := Aside0.mk (show Kd.R (Kd.int .i64) 3 _ _ _ _ (rd_L2 t105 2) from ge109_0); clear hv109_0 ge109_0; clear hcc109 hce109; (try simp only [show (2 : Int).toNat = 2 from rfl, Nat.reduceMul, Nat.reduceEqDiff, Go.Addr.add, ↓reduceIte] at hx109_0); have qi109 : (2 < t105.length) = True := eq_true (by omega); (try rw [show ((2 : Int)).toNat = 2 from rfl] at hx109_0); have HR109_0 := Aside0.mk hi109_0; have HC109_0 := Aside0.mk hl109_0; clear hi109_0 hl109_0; replace p109 := eq_true p109; replace q109 := eq_true q109; have p110 : 0 ≤ (0 : Int) := (by omega); have q110 : 0 < ((rd_L2 t105 2).length : Int) := of_decide_eq_true (by first | (with_reducible assumption) | assumption); obtain ⟨ad110, e110, hx110_0⟩ := Kd.at_int (by repeat (first | (with_reducible exact HR109_0.out) | (with_reducible refine Kd.C_alloc ?_ _) | (with_reducible refine Kd.C_drewN ?_ _) | (with_reducible refine Kd.C_drew ?_) | exact HR109_0.out)) 0 p110 q110; cases e110; have qi110 : (0 < (rd_L2 t105 2).length) = True := eq_true (by omega); (try rw [show ((0 : Int)).toNat = 0 from rfl] at hx110_0); (try rw [Addr.add_zero'] at hx110_0); replace p110 := eq_true p110; replace q110 := eq_true q110; have hcz16_0 : w14.cell? ⟨gb104, 0, none⟩ = some (.int .i64 1) := (blk_cell BK104.out 0).trans rfl; have hcz16_1 : w14.cell? ⟨gb104, 1, none⟩ = some (.slice Ao11 y101.length co11) := (blk_cell BK104.out 1).trans rfl; have hfz16_0 := blk_frozen BK104.out 0; have hfz16_1 := blk_frozen BK104.out 1) | (go_at_call 34; (with_reducible refine (term_Size.calls 1 _ _ y101 t111 _ ?side1 ?side2 A8.out).mono ?_); (case side1 => repeat (first | exact (Kd.R_reads' HO103.out).2.2 | (with_reducible refine Kd.C_alloc ?_ _) | (with_reducible refine Kd.C_drewN ?_ _) | (with_reducible refine Kd.C_drew ?_))); (case side2 => exact (Kd.R_reads' HO103.out).2.1); rintro e w17 ⟨rfl, hb⟩; have n0_ := Aside0.mk (Kd.R_below (by (with_reducible repeat (first | apply Kd.R_alloc | apply Kd.R_drewN | apply Kd.R_drew)); exact HO103.out) hb); have n1_ := Aside0.mk (Kd.R_below (by (with_reducible repeat (first | apply Kd.R_alloc | apply Kd.R_drewN | apply Kd.R_drew)); exact HO107.out) hb); have n2_ := Aside0.mk (Kd.R_below (by (with_reducible repeat (first | apply Kd.R_alloc | apply Kd.R_drewN | apply Kd.R_drew)); exact HL108_0.out) hb); have n3_ := Aside0.mk (Kd.R_below (by (with_reducible repeat (first | apply Kd.R_alloc | apply Kd.R_drewN | apply Kd.R_drew)); exact HL109_0.out) hb); have n4_ := Aside0.mk (blk_below (g := gb104) (o := .cells #[.int .i64 1, .slice Ao11 y101.length co11] 30 (0, 0)) (by (with_reducible repeat (first | refine blk_drewN ?_ _ | refine blk_drew ?_ | refine blk_alloc ?_ _)); exact BK104.out) hb); have n5_ := Aside0.mk (Kd.C_below (by repeat (first | (with_reducible exact HR108_0.out) | (with_reducible refine Kd.C_alloc ?_ _) | (with_reducible refine Kd.C_drewN ?_ _) | (with_reducible refine Kd.C_drew ?_) | exact HR108_0.out)) hb); have n6_ := Aside0.mk (Kd.C_below (by repeat (first | (with_reducible exact HR109_0.out) | (with_reducible refine Kd.C_alloc ?_ _) | (with_reducible refine Kd.C_drewN ?_ _) | (with_reducible refine Kd.C_drew ?_) | exact HR109_0.out)) hb); have n7_ := Aside0.mk (below_step (by repeat (first | (with_reducible first | exact HB.out | apply below_alloc | apply pw_below_drewN | apply below_drew1 | refine below_set ?_ GE104.out) | exact HB.out)) hb); clear HO103; clear HO107; clear HL108_0; clear HL109_0; clear BK104; clear HR108_0; clear HR109_0; clear HB; have HO103 := n0_; have HO107 := n1_; have HL108_0 := n2_; have HL109_0 := n3_; have BK104 := n4_; have HR108_0 := n5_; have HR109_0 := n6_; have HB := n7_; clear n0_ n1_ n2_ n3_ n4_ n5_ n6_ n7_; (try clear hb); (try clear hb2); (try clear hk); (try clear hi)))
              go_ret
              exact ⟨by first | rfl | (simp [errW_none, errW_some] <;> rfl) | (simp [*, errW_none, errW_some] <;> rfl), by repeat (first | (with_reducible first | exact HB.out | apply below_alloc | apply pw_below_drewN | apply below_drew1 | refine below_set ?_ GE104.out) | exact HB.out)⟩
            · rw [if_neg c7] at H
              have c7b0 : ((rd (rd_L2 t105 2) 0) == 1) = false := beq_eq_false_iff_ne.mpr c7
              have c7b1 : ((rd (rd_L2 t105 2) 0) != 1) = true := bne_iff_ne.mpr c7
              obtain rfl := Option.some.inj H
              go_enter Try.func20, Try.ntmps20
              go_wp2_with (first | ((with_reducible refine gate_dst (N := 5) rfl ?_); (try (refine gate_guard (by rfl) ?_; dsimp only)); refine Kd.R_lit k30 _ 30 ?hg (N := 5) ?hd (xs := ([(⟨(-1), ([] : List (S30))⟩ : S30), (⟨2, ([] : List (S30))⟩ : S30)] : List (S30))) (inner := [.int .i64 (-1), .slice none 0 0, .int .i64 2, .slice none 0 0]) (ok := fun _ => True) (okp := fun _ => True) ?hr ?hp (fun _ hk => hk) trivial (Below.refl _ _) (Nat.le_refl _) (by simp) ?_; (case hd => rfl); (case hg => rfl); (case hr => first | (go_simp; done) | (go_simp; rfl)); (case hp => exact (Reps.c2 (show Kd.M k30 _ _ _ (⟨(-1), ([] : List (S30))⟩ : S30) [.int .i64 (-1), .slice none 0 0] from (k30_mkM _ _ _ (⟨(-1), ([] : List (S30))⟩ : S30) (Kd.R_nil _ _ _ _ _))) (Reps.c2 (show Kd.M k30 _ _ _ (⟨2, ([] : List (S30))⟩ : S30) [.int .i64 2, .slice none 0 0] from (k30_mkM _ _ _ (⟨2, ([] : List (S30))⟩ : S30) (Kd.R_nil _ _ _ _ _))) (Reps.none _ _)))); intro v102 w18 ho19 hb hg_ hnew_; clear hg_ hnew_; (first | rw [← Ny101.out] at ho19 | (simp only [Int.reduceToNat] at ho19; rw [← Ny101.out] at ho19)); have n0_ := Aside0.mk (Kd.R_lower ho19 (below_size (by repeat (first | (with_reducible first | exact HB.out | apply below_alloc | apply pw_below_drewN | apply below_drew1) | exact HB.out)))); have n1_ := Aside0.mk (below_step (by repeat (first | (with_reducible first | exact HB.out | apply below_alloc | apply pw_below_drewN | apply below_drew1) | exact HB.out)) hb); clear HB; have HO103 := n0_; have HB := n1_; clear n0_ n1_; clear hb ho19; obtain ⟨Ao20, co20, eo20⟩ := Kd.R_slice HO103.out; subst eo20) | ((with_reducible refine gate_dst (N := 1) rfl ?_); (try (refine gate_guard (by rfl) ?_; dsimp only)); refine box_event ?hg (N := 1) ?hd (cs := #[.int .i64 0, .slice none 0 0]) (t := 30) ?hr ?_; (case hd => rfl); (case hg => rfl); (case hr => first | (go_simp; done) | (go_simp; rfl)); intro gb104 hg w21 hbox hb; have n0_ := Aside0.mk (Kd.R_below (Kd.R_elderB (by (with_reducible repeat (first | apply Kd.R_alloc | apply Kd.R_drewN | apply Kd.R_drew)); exact HO103.out) gb104 (Nat.le_of_eq hg.symm)) hb); have n1_ := Aside0.mk (below_step (by repeat (first | (with_reducible first | exact HB.out | apply below_alloc | apply pw_below_drewN | apply below_drew1) | exact HB.out)) hb); have n2_ := Aside0.mk (hbox); have n3_ := Aside0.mk ((by rw [hg]; exact (below_size (by repeat (first | (with_reducible first | exact HB.out | apply below_alloc | apply pw_below_drewN | apply below_drew1) | exact HB.out))) : w.heap.size ≤ gb104)); have n4_ := Aside0.mk ((by rw [hg]; exact (below_size (by repeat (first | (with_reducible first | exact HB.out | apply below_alloc | apply pw_below_drewN | apply below_drew1) | exact HB.out))) : w.heap.size ≤ gb104)); clear HO103; clear HB; have HO103 := n0_; have HB := n1_; have BK104 := n2_; have GW104 := n3_; have GE104 := n4_; clear n0_ n1_ n2_ n3_ n4_; clear hb hbox hg; have hcz22_0 : w21.cell? ⟨gb104, 0, none⟩ = some (.int .i64 0) := (blk_cell BK104.out 0).trans rfl; have hcz22_1 : w21.cell? ⟨gb104, 1, none⟩ = some (.slice none 0 0) := (blk_cell BK104.out 1).trans rfl; have hfz22_0 := blk_frozen BK104.out 0; have hfz22_1 := blk_frozen BK104.out 1) | (go_at_call 23; (with_reducible refine (term_Places.calls 1 _ _ y101 t105 _ ?side1 ?side2 A1.out).mono ?_); (case side1 => refine (Kd.R_reads' (e := 30) (base := w.heap.size) (ok := fun k_ => (True ∧ k_ ≠ gb104)) (n := y101.length) (c := co20) ?_).2.2; exact (by (with_reducible repeat (first | apply Kd.R_alloc | apply Kd.R_drewN | apply Kd.R_drew)); exact (Kd.R_mono (Kd.R_far (p := ⟨gb104, 1, none⟩) (Kd.R_far (p := ⟨gb104, 0, none⟩) (Kd.R_mono HO103.out (fun k_ hk => (⟨hk, hk.2⟩ : _ ∧ k_ ≠ gb104))) (fun _ hk => hk.2) (.int .i64 1)) (fun _ hk => hk.2) (.slice Ao20 y101.length co20)) (fun _ h_ => h_.1)))); (case side2 => exact (Kd.R_reads' HO103.out).2.1); rintro e w23 ⟨v106, rfl, ho0, hb⟩; have n0_ := Aside0.mk (Kd.R_below (by (with_reducible repeat (first | apply Kd.R_alloc | apply Kd.R_drewN | apply Kd.R_drew)); exact (Kd.R_mono (Kd.R_far (p := ⟨gb104, 1, none⟩) (Kd.R_far (p := ⟨gb104, 0, none⟩) (Kd.R_mono HO103.out (fun k_ hk => (⟨hk, hk.2⟩ : _ ∧ k_ ≠ gb104))) (fun _ hk => hk.2) (.int .i64 1)) (fun _ hk => hk.2) (.slice Ao20 y101.length co20)) (fun _ h_ => h_.1))) hb); have n1_ := Aside0.mk (Kd.R_lower ho0 (below_size (by repeat (first | (with_reducible first | exact HB.out | apply below_alloc | apply pw_below_drewN | apply below_drew1 | refine below_set ?_ GE104.out) | exact HB.out)))); have n2_ := Aside0.mk (blk_below (g := gb104) (o := .cells #[.int .i64 1, .slice Ao20 y101.length co20] 30 (0, 0)) (by (with_reducible repeat (first | refine blk_drewN ?_ _ | refine blk_drew ?_ | refine blk_alloc ?_ _)); refine blk_put (cs := #[.int .i64 1, .slice none 0 0]) ?_ 1 _ rfl; (with_reducible repeat (first | refine blk_drewN ?_ _ | refine blk_drew ?_ | refine blk_alloc ?_ _)); refine blk_put (cs := #[.int .i64 0, .slice none 0 0]) ?_ 0 _ rfl; (with_reducible repeat (first | refine blk_drewN ?_ _ | refine blk_drew ?_ | refine blk_alloc ?_ _)); exact BK104.out) hb); have n3_ := Aside0.mk (below_step (by repeat (first | (with_reducible first | exact HB.out | apply below_alloc | apply pw_below_drewN | apply below_drew1 | refine below_set ?_ GE104.out) | exact HB.out)) hb); clear HO103; clear BK104; clear HB; have HO103 := n0_; have HO107 := n1_; have BK104 := n2_; have HB := n3_; clear n0_ n1_ n2_ n3_; (try clear hb); (try clear hb2); (try clear hk); (try clear hi); (try clear ho0); obtain ⟨Ao24, co24, eo24⟩ := Kd.R_slice HO107.out; subst eo24; have p108 : 0 ≤ (0 : Int) := (by omega); have q108 : 0 < (t105.length : Int) := of_decide_eq_true (by first | (with_reducible assumption) | assumption); obtain ⟨ad108, A108_0, c108_0, e108, hx108_0, hl108_0, hi108_0⟩ := at_L2 (Kd.R_reads' HO107.out).2.2 0 p108 q108; cases e108; obtain ⟨ce108, hce108, hMe108, hcc108⟩ := Kd.R_get HO107.out [] 0 p108 (by first | exact q108 | exact of_decide_eq_true (by first | (with_reducible assumption) | assumption) | (have e_ := (Kd.R_reads' HO107.out).1; omega)); obtain ⟨ve108_0, rfl, ge108_0⟩ := hMe108; have hv108_0 := hcc108 0 _ rfl; rw [Nat.add_zero, show ((Kd.slice 3 (Kd.int .i64))).sz = 1 from rfl, Nat.mul_one] at hv108_0; replace hv108_0 := Option.some.inj (hv108_0.symm.trans hx108_0); rw [hv108_0] at ge108_0; have HL108_0 := Aside0.mk (show Kd.R (Kd.int .i64) 3 _ _ _ _ (rd_L2 t105 0) from ge108_0); clear hv108_0 ge108_0; clear hcc108 hce108; have qi108 : (0 < t105.length) = True := eq_true (by omega); (try rw [show ((0 : Int)).toNat = 0 from rfl] at hx108_0); (try rw [Addr.add_zero'] at hx108_0); have HR108_0 := Aside0.mk hi108_0; have HC108_0 := Aside0.mk hl108_0; clear hi108_0 hl108_0; replace p108 := eq_true p108; replace q108 := eq_true q108; have p109 : 0 ≤ (2 : Int) := (by omega); have q109 : 2 < (t105.length : Int) := of_decide_eq_true (by first | (with_reducible assumption) | assumption); obtain ⟨ad109, A109_0, c109_0, e109, hx109_0, hl109_0, hi109_0⟩ := at_L2 (Kd.R_reads' HO107.out).2.2 2 p109 q109; obtain rfl : ad108 = ad109 := (by injection e109); obtain ⟨ce109, hce109, hMe109, hcc109⟩ := Kd.R_get HO107.out [] 2 p109 (by first | exact q109 | exact of_decide_eq_true (by first | (with_reducible assumption) | assumption) | (have e_ := (Kd.R_reads' HO107.out).1; omega)); obtain ⟨ve109_0, rfl, ge109_0⟩ := hMe109; have hv109_0 := hcc109 0 _ rfl; rw [Nat.add_zero, show ((Kd.slice 3 (Kd.int .i64))).sz = 1 from rfl, Nat.mul_one] at hv109_0; replace hv109_0 := Option.some.inj (hv109_0.symm.trans hx109_0); rw [hv109_0] at ge109_0; have HL109_0 := Aside0.mk (show Kd.R (Kd.int .i64) 3 _ _ _ _ (rd_L2 t105 2) from ge109_0); clear hv109_0 ge109_0; clear hcc109 hce109; (try simp only [show (2 : Int).toNat = 2 from rfl, Nat.reduceMul, Nat.reduceEqDiff, Go.Addr.add, ↓reduceIte] at hx109_0); have qi109 : (2 < t105.length) = True := eq_true (by omega); (try rw [show ((2 : Int)).toNat = 2 from rfl] at hx109_0); have HR109_0 := Aside0.mk hi109_0; have HC109_0 := Aside0.mk hl109_0; clear hi109_0 hl109_0; replace p109 := eq_true p109; replace q109 := eq_true q109; have p110 : 0 ≤ (0 : Int) := (by omega); have q110 : 0 < ((rd_L2 t105 2).length : Int) := of_decide_eq_true (by first | (with_reducible assumption) | assumption); obtain ⟨ad110, e110, hx110_0⟩ := Kd.at_int (by repeat (first | (with_reducible exact HR109_0.out) | (with_reducible refine Kd.C_alloc ?_ _) | (with_reducible refine Kd.C_drewN ?_ _) | (with_reducible refine Kd.C_drew ?_) | exact HR109_0.out)) 0 p110 q110; cases e110; have qi110 : (0 < (rd_L2 t105 2).length) = True := eq_true (by omega); (try rw [show ((0 : Int)).toNat = 0 from rfl] at hx110_0); (try rw [Addr.add_zero'] at hx110_0); replace p110 := eq_true p110; replace q110 := eq_true q110))
              go_ret
              exact ⟨by first | rfl | (simp [errW_none, errW_some] <;> rfl) | (simp [*, errW_none, errW_some] <;> rfl), by repeat (first | (with_reducible first | exact HB.out | apply below_alloc | apply pw_below_drewN | apply below_drew1 | refine below_set ?_ GE104.out) | exact HB.out)⟩
          · rw [if_neg c6] at H
            exact absurd H (by simp)
        · rw [if_neg c5] at H
          exact absurd H (by simp)
      · rw [if_neg c4] at H
        have c4b0 : (((rd_L2 t105 0).length : Int) == 0) = false := beq_eq_false_iff_ne.mpr c4
        have c4b1 : (((rd_L2 t105 0).length : Int) != 0) = true := bne_iff_ne.mpr c4
        have c4b2 : ¬ ((rd_L2 t105 0) = []) := fun h_ => c4 (by rw [h_]; rfl)
        obtain rfl := Option.some.inj H
        go_enter Try.func20, Try.ntmps20
        go_wp2_with (first | ((with_reducible refine gate_dst (N := 5) rfl ?_); (try (refine gate_guard (by rfl) ?_; dsimp only)); refine Kd.R_lit k30 _ 30 ?hg (N := 5) ?hd (xs := ([(⟨(-1), ([] : List (S30))⟩ : S30), (⟨2, ([] : List (S30))⟩ : S30)] : List (S30))) (inner := [.int .i64 (-1), .slice none 0 0, .int .i64 2, .slice none 0 0]) (ok := fun _ => True) (okp := fun _ => True) ?hr ?hp (fun _ hk => hk) trivial (Below.refl _ _) (Nat.le_refl _) (by simp) ?_; (case hd => rfl); (case hg => rfl); (case hr => first | (go_simp; done) | (go_simp; rfl)); (case hp => exact (Reps.c2 (show Kd.M k30 _ _ _ (⟨(-1), ([] : List (S30))⟩ : S30) [.int .i64 (-1), .slice none 0 0] from (k30_mkM _ _ _ (⟨(-1), ([] : List (S30))⟩ : S30) (Kd.R_nil _ _ _ _ _))) (Reps.c2 (show Kd.M k30 _ _ _ (⟨2, ([] : List (S30))⟩ : S30) [.int .i64 2, .slice none 0 0] from (k30_mkM _ _ _ (⟨2, ([] : List (S30))⟩ : S30) (Kd.R_nil _ _ _ _ _))) (Reps.none _ _)))); intro v102 w25 ho26 hb hg_ hnew_; clear hg_ hnew_; (first | rw [← Ny101.out] at ho26 | (simp only [Int.reduceToNat] at ho26; rw [← Ny101.out] at ho26)); have n0_ := Aside0.mk (Kd.R_lower ho26 (below_size (by repeat (first | (with_reducible first | exact HB.out | apply below_alloc | apply pw_below_drewN | apply below_drew1) | exact HB.out)))); have n1_ := Aside0.mk (below_step (by repeat (first | (with_reducible first | exact HB.out | apply below_alloc | apply pw_below_drewN | apply below_drew1) | exact HB.out)) hb); clear HB; have HO103 := n0_; have HB := n1_; clear n0_ n1_; clear hb ho26; obtain ⟨Ao27, co27, eo27⟩ := Kd.R_slice HO103.out; subst eo27) | ((with_reducible refine gate_dst (N := 1) rfl ?_); (try (refine gate_guard (by rfl) ?_; dsimp only)); refine box_event ?hg (N := 1) ?hd (cs := #[.int .i64 0, .slice none 0 0]) (t := 30) ?hr ?_; (case hd => rfl); (case hg => rfl); (case hr => first | (go_simp; done) | (go_simp; rfl)); intro gb104 hg w28 hbox hb; have n0_ := Aside0.mk (Kd.R_below (Kd.R_elderB (by (with_reducible repeat (first | apply Kd.R_alloc | apply Kd.R_drewN | apply Kd.R_drew)); exact HO103.out) gb104 (Nat.le_of_eq hg.symm)) hb); have n1_ := Aside0.mk (below_step (by repeat (first | (with_reducible first | exact HB.out | apply below_alloc | apply pw_below_drewN | apply below_drew1) | exact HB.out)) hb); have n2_ := Aside0.mk (hbox); have n3_ := Aside0.mk ((by rw [hg]; exact (below_size (by repeat (first | (with_reducible first | exact HB.out | apply below_alloc | apply pw_below_drewN | apply below_drew1) | exact HB.out))) : w.heap.size ≤ gb104)); have n4_ := Aside0.mk ((by rw [hg]; exact (below_size (by repeat (first | (with_reducible first | exact HB.out | apply below_alloc | apply pw_below_drewN | apply below_drew1) | exact HB.out))) : w.heap.size ≤ gb104)); clear HO103; clear HB; have HO103 := n0_; have HB := n1_; have BK104 := n2_; have GW104 := n3_; have GE104 := n4_; clear n0_ n1_ n2_ n3_ n4_; clear hb hbox hg; have hcz29_0 : w28.cell? ⟨gb104, 0, none⟩ = some (.int .i64 0) := (blk_cell BK104.out 0).trans rfl; have hcz29_1 : w28.cell? ⟨gb104, 1, none⟩ = some (.slice none 0 0) := (blk_cell BK104.out 1).trans rfl; have hfz29_0 := blk_frozen BK104.out 0; have hfz29_1 := blk_frozen BK104.out 1) | (go_at_call 23; (with_reducible refine (term_Places.calls 1 _ _ y101 t105 _ ?side1 ?side2 A1.out).mono ?_); (case side1 => refine (Kd.R_reads' (e := 30) (base := w.heap.size) (ok := fun k_ => (True ∧ k_ ≠ gb104)) (n := y101.length) (c := co27) ?_).2.2; exact (by (with_reducible repeat (first | apply Kd.R_alloc | apply Kd.R_drewN | apply Kd.R_drew)); exact (Kd.R_mono (Kd.R_far (p := ⟨gb104, 1, none⟩) (Kd.R_far (p := ⟨gb104, 0, none⟩) (Kd.R_mono HO103.out (fun k_ hk => (⟨hk, hk.2⟩ : _ ∧ k_ ≠ gb104))) (fun _ hk => hk.2) (.int .i64 1)) (fun _ hk => hk.2) (.slice Ao27 y101.length co27)) (fun _ h_ => h_.1)))); (case side2 => exact (Kd.R_reads' HO103.out).2.1); rintro e w30 ⟨v106, rfl, ho0, hb⟩; have n0_ := Aside0.mk (Kd.R_below (by (with_reducible repeat (first | apply Kd.R_alloc | apply Kd.R_drewN | apply Kd.R_drew)); exact (Kd.R_mono (Kd.R_far (p := ⟨gb104, 1, none⟩) (Kd.R_far (p := ⟨gb104, 0, none⟩) (Kd.R_mono HO103.out (fun k_ hk => (⟨hk, hk.2⟩ : _ ∧ k_ ≠ gb104))) (fun _ hk => hk.2) (.int .i64 1)) (fun _ hk => hk.2) (.slice Ao27 y101.length co27)) (fun _ h_ => h_.1))) hb); have n1_ := Aside0.mk (Kd.R_lower ho0 (below_size (by repeat (first | (with_reducible first | exact HB.out | apply below_alloc | apply pw_below_drewN | apply below_drew1 | refine below_set ?_ GE104.out) | exact HB.out)))); have n2_ := Aside0.mk (blk_below (g := gb104) (o := .cells #[.int .i64 1, .slice Ao27 y101.length co27] 30 (0, 0)) (by (with_reducible repeat (first | refine blk_drewN ?_ _ | refine blk_drew ?_ | refine blk_alloc ?_ _)); refine blk_put (cs := #[.int .i64 1, .slice none 0 0]) ?_ 1 _ rfl; (with_reducible repeat (first | refine blk_drewN ?_ _ | refine blk_drew ?_ | refine blk_alloc ?_ _)); refine blk_put (cs := #[.int .i64 0, .slice none 0 0]) ?_ 0 _ rfl; (with_reducible repeat (first | refine blk_drewN ?_ _ | refine blk_drew ?_ | refine blk_alloc ?_ _)); exact BK104.out) hb); have n3_ := Aside0.mk (below_step (by repeat (first | (with_reducible first | exact HB.out | apply below_alloc | apply pw_below_drewN | apply below_drew1 | refine below_set ?_ GE104.out) | exact HB.out)) hb); clear HO103; clear BK104; clear HB; have HO103 := n0_; have HO107 := n1_; have BK104 := n2_; have HB := n3_; clear n0_ n1_ n2_ n3_; (try clear hb); (try clear hb2); (try clear hk); (try clear hi); (try clear ho0); obtain ⟨Ao31, co31, eo31⟩ := Kd.R_slice HO107.out; subst eo31; have p108 : 0 ≤ (0 : Int) := (by omega); have q108 : 0 < (t105.length : Int) := of_decide_eq_true (by first | (with_reducible assumption) | assumption); obtain ⟨ad108, A108_0, c108_0, e108, hx108_0, hl108_0, hi108_0⟩ := at_L2 (Kd.R_reads' HO107.out).2.2 0 p108 q108; cases e108; obtain ⟨ce108, hce108, hMe108, hcc108⟩ := Kd.R_get HO107.out [] 0 p108 (by first | exact q108 | exact of_decide_eq_true (by first | (with_reducible assumption) | assumption) | (have e_ := (Kd.R_reads' HO107.out).1; omega)); obtain ⟨ve108_0, rfl, ge108_0⟩ := hMe108; have hv108_0 := hcc108 0 _ rfl; rw [Nat.add_zero, show ((Kd.slice 3 (Kd.int .i64))).sz = 1 from rfl, Nat.mul_one] at hv108_0; replace hv108_0 := Option.some.inj (hv108_0.symm.trans hx108_0); rw [hv108_0] at ge108_0; have HL108_0 := Aside0.mk (show Kd.R (Kd.int .i64) 3 _ _ _ _ (rd_L2 t105 0) from ge108_0); clear hv108_0 ge108_0; clear hcc108 hce108; have qi108 : (0 < t105.length) = True := eq_true (by omega); (try rw [show ((0 : Int)).toNat = 0 from rfl] at hx108_0); (try rw [Addr.add_zero'] at hx108_0); have HR108_0 := Aside0.mk hi108_0; have HC108_0 := Aside0.mk hl108_0; clear hi108_0 hl108_0; replace p108 := eq_true p108; replace q108 := eq_true q108))
        go_ret
        exact ⟨by first | rfl | (simp [errW_none, errW_some] <;> rfl) | (simp [*, errW_none, errW_some] <;> rfl), by repeat (first | (with_reducible first | exact HB.out | apply below_alloc | apply pw_below_drewN | apply below_drew1 | refine below_set ?_ GE104.out) | exact HB.out)⟩
    · rw [if_neg c3] at H
      exact absurd H (by simp)
  · rw [if_neg c2] at H
    have c2b0 : ((t105.length : Int) == 3) = false := beq_eq_false_iff_ne.mpr c2
    have c2b1 : ((t105.length : Int) != 3) = true := bne_iff_ne.mpr c2
    obtain rfl := Option.some.inj H
    go_enter Try.func20, Try.ntmps20
    go_wp2_with (first | ((with_reducible refine gate_dst (N := 5) rfl ?_); (try (refine gate_guard (by rfl) ?_; dsimp only)); refine Kd.R_lit k30 _ 30 ?hg (N := 5) ?hd (xs := ([(⟨(-1), ([] : List (S30))⟩ : S30), (⟨2, ([] : List (S30))⟩ : S30)] : List (S30))) (inner := [.int .i64 (-1), .slice none 0 0, .int .i64 2, .slice none 0 0]) (ok := fun _ => True) (okp := fun _ => True) ?hr ?hp (fun _ hk => hk) trivial (Below.refl _ _) (Nat.le_refl _) (by simp) ?_; (case hd => rfl); (case hg => rfl); (case hr => first | (go_simp; done) | (go_simp; rfl)); (case hp => exact (Reps.c2 (show Kd.M k30 _ _ _ (⟨(-1), ([] : List (S30))⟩ : S30) [.int .i64 (-1), .slice none 0 0] from (k30_mkM _ _ _ (⟨(-1), ([] : List (S30))⟩ : S30) (Kd.R_nil _ _ _ _ _))) (Reps.c2 (show Kd.M k30 _ _ _ (⟨2, ([] : List (S30))⟩ : S30) [.int .i64 2, .slice none 0 0] from (k30_mkM _ _ _ (⟨2, ([] : List (S30))⟩ : S30) (Kd.R_nil _ _ _ _ _))) (Reps.none _ _)))); intro v102 w32 ho33 hb hg_ hnew_; clear hg_ hnew_; (first | rw [← Ny101.out] at ho33 | (simp only [Int.reduceToNat] at ho33; rw [← Ny101.out] at ho33)); have n0_ := Aside0.mk (Kd.R_lower ho33 (below_size (by repeat (first | (with_reducible first | exact HB.out | apply below_alloc | apply pw_below_drewN | apply below_drew1) | exact HB.out)))); have n1_ := Aside0.mk (below_step (by repeat (first | (with_reducible first | exact HB.out | apply below_alloc | apply pw_below_drewN | apply below_drew1) | exact HB.out)) hb); clear HB; have HO103 := n0_; have HB := n1_; clear n0_ n1_; clear hb ho33; obtain ⟨Ao34, co34, eo34⟩ := Kd.R_slice HO103.out; subst eo34) | ((with_reducible refine gate_dst (N := 1) rfl ?_); (try (refine gate_guard (by rfl) ?_; dsimp only)); refine box_event ?hg (N := 1) ?hd (cs := #[.int .i64 0, .slice none 0 0]) (t := 30) ?hr ?_; (case hd => rfl); (case hg => rfl); (case hr => first | (go_simp; done) | (go_simp; rfl)); intro gb104 hg w35 hbox hb; have n0_ := Aside0.mk (Kd.R_below (Kd.R_elderB (by (with_reducible repeat (first | apply Kd.R_alloc | apply Kd.R_drewN | apply Kd.R_drew)); exact HO103.out) gb104 (Nat.le_of_eq hg.symm)) hb); have n1_ := Aside0.mk (below_step (by repeat (first | (with_reducible first | exact HB.out | apply below_alloc | apply pw_below_drewN | apply below_drew1) | exact HB.out)) hb); have n2_ := Aside0.mk (hbox); have n3_ := Aside0.mk ((by rw [hg]; exact (below_size (by repeat (first | (with_reducible first | exact HB.out | apply below_alloc | apply pw_below_drewN | apply below_drew1) | exact HB.out))) : w.heap.size ≤ gb104)); have n4_ := Aside0.mk ((by rw [hg]; exact (below_size (by repeat (first | (with_reducible first | exact HB.out | apply below_alloc | apply pw_below_drewN | apply below_drew1) | exact HB.out))) : w.heap.size ≤ gb104)); clear HO103; clear HB; have HO103 := n0_; have HB := n1_; have BK104 := n2_; have GW104 := n3_; have GE104 := n4_; clear n0_ n1_ n2_ n3_ n4_; clear hb hbox hg; have hcz36_0 : w35.cell? ⟨gb104, 0, none⟩ = some (.int .i64 0) := (blk_cell BK104.out 0).trans rfl; have hcz36_1 : w35.cell? ⟨gb104, 1, none⟩ = some (.slice none 0 0) := (blk_cell BK104.out 1).trans rfl; have hfz36_0 := blk_frozen BK104.out 0; have hfz36_1 := blk_frozen BK104.out 1) | (go_at_call 23; (with_reducible refine (term_Places.calls 1 _ _ y101 t105 _ ?side1 ?side2 A1.out).mono ?_); (case side1 => refine (Kd.R_reads' (e := 30) (base := w.heap.size) (ok := fun k_ => (True ∧ k_ ≠ gb104)) (n := y101.length) (c := co34) ?_).2.2; exact (by (with_reducible repeat (first | apply Kd.R_alloc | apply Kd.R_drewN | apply Kd.R_drew)); exact (Kd.R_mono (Kd.R_far (p := ⟨gb104, 1, none⟩) (Kd.R_far (p := ⟨gb104, 0, none⟩) (Kd.R_mono HO103.out (fun k_ hk => (⟨hk, hk.2⟩ : _ ∧ k_ ≠ gb104))) (fun _ hk => hk.2) (.int .i64 1)) (fun _ hk => hk.2) (.slice Ao34 y101.length co34)) (fun _ h_ => h_.1)))); (case side2 => exact (Kd.R_reads' HO103.out).2.1); rintro e w37 ⟨v106, rfl, ho0, hb⟩; have n0_ := Aside0.mk (Kd.R_below (by (with_reducible repeat (first | apply Kd.R_alloc | apply Kd.R_drewN | apply Kd.R_drew)); exact (Kd.R_mono (Kd.R_far (p := ⟨gb104, 1, none⟩) (Kd.R_far (p := ⟨gb104, 0, none⟩) (Kd.R_mono HO103.out (fun k_ hk => (⟨hk, hk.2⟩ : _ ∧ k_ ≠ gb104))) (fun _ hk => hk.2) (.int .i64 1)) (fun _ hk => hk.2) (.slice Ao34 y101.length co34)) (fun _ h_ => h_.1))) hb); have n1_ := Aside0.mk (Kd.R_lower ho0 (below_size (by repeat (first | (with_reducible first | exact HB.out | apply below_alloc | apply pw_below_drewN | apply below_drew1 | refine below_set ?_ GE104.out) | exact HB.out)))); have n2_ := Aside0.mk (blk_below (g := gb104) (o := .cells #[.int .i64 1, .slice Ao34 y101.length co34] 30 (0, 0)) (by (with_reducible repeat (first | refine blk_drewN ?_ _ | refine blk_drew ?_ | refine blk_alloc ?_ _)); refine blk_put (cs := #[.int .i64 1, .slice none 0 0]) ?_ 1 _ rfl; (with_reducible repeat (first | refine blk_drewN ?_ _ | refine blk_drew ?_ | refine blk_alloc ?_ _)); refine blk_put (cs := #[.int .i64 0, .slice none 0 0]) ?_ 0 _ rfl; (with_reducible repeat (first | refine blk_drewN ?_ _ | refine blk_drew ?_ | refine blk_alloc ?_ _)); exact BK104.out) hb); have n3_ := Aside0.mk (below_step (by repeat (first | (with_reducible first | exact HB.out | apply below_alloc | apply pw_below_drewN | apply below_drew1 | refine below_set ?_ GE104.out) | exact HB.out)) hb); clear HO103; clear BK104; clear HB; have HO103 := n0_; have HO107 := n1_; have BK104 := n2_; have HB := n3_; clear n0_ n1_ n2_ n3_; (try clear hb); (try clear hb2); (try clear hk); (try clear hi); (try clear ho0); obtain ⟨Ao38, co38, eo38⟩ := Kd.R_slice HO107.out; subst eo38))
    go_ret
    exact ⟨by first | rfl | (simp [errW_none, errW_some] <;> rfl) | (simp [*, errW_none, errW_some] <;> rfl), by repeat (first | (with_reducible first | exact HB.out | apply below_alloc | apply pw_below_drewN | apply below_drew1 | refine below_set ?_ GE104.out) | exact HB.out)⟩
end Go.Proofs.Ytpfddihcikiofaa.P
end
section
namespace Go.Proofs.Ytpfddihcikiofaa.P
open Go.RowKit Go.Proofs.YtpfddihcikiofaaW.PrintWords Go.Proofs.YtpfddihcikiofaaW.PrintLast Go.Proofs.YtpfddihcikiofaaW.PrintMore
set_option linter.unusedVariables false
set_option linter.unusedSimpArgs false
mutual
def nodes : S30 → List S30
  | ⟨f, l⟩ => ⟨f, l⟩ :: (if f < 0 then [] else nodess l)
def nodess : List S30 → List S30
  | [] => []
  | x :: r => nodes x ++ nodess r
end
mutual
theorem nodes_le : ∀ t : S30, (nodes t).length ≤ wt t
  | ⟨f, l⟩ => by
    simp only [nodes, wt, List.length_cons]
    split
    · simp
    · have := nodess_le l; omega
theorem nodess_le : ∀ l : List S30, (nodess l).length ≤ wts l
  | [] => by simp [nodess, wts]
  | x :: r => by
    have h1 := nodes_le x
    have h2 := nodess_le r
    simp only [nodess, wts, List.length_append]
    omega
end
theorem alive06 : soriteslaw06_alive.f = some true := by
  simp [soriteslaw06_alive.f, term_Places.f, term_Size.f, flatP, flatPs, rd_L2, rd]
end Go.Proofs.Ytpfddihcikiofaa.P
end
section
namespace Go.Proofs.Ytpfddihcikiofaa.P
open Go.RowKit Go.Proofs.YtpfddihcikiofaaW.PrintWords Go.Proofs.YtpfddihcikiofaaW.PrintLast Go.Proofs.YtpfddihcikiofaaW.PrintMore
attribute [local go_sem] max2_int min2_int max_two min_two max_three min_three max_four min_four
set_option linter.unusedVariables false
set_option linter.unusedSimpArgs false
def term_parts.f (a0_0 : Int) (l0_1 : List (S30)) : Option ((List (S30))) := if a0_0 < 0 then (some ([] : List (S30))) else (some l0_1)
set_option maxHeartbeats 8000000 in
set_option maxRecDepth 100000 in
theorem term_parts.calls (a0_0 : Int) (P0_1_ : Nat → Prop) (A0_1 : Option Addr) (c0_1 : Nat) (l0_1 : List (S30)) (r : List (S30)) (w : World) (hs0_1 : Kd.V k30 30 w w.heap.size (fun k_ => P0_1_ k_) (.slice A0_1 l0_1.length c0_1) l0_1) (h : term_parts.f a0_0 l0_1 = some r) :
    Calls Try.prog 74 #[.agg #[.int .i64 a0_0, .slice A0_1 l0_1.length c0_1]] w fun e w' => ∃ v0_ : Value, e = .returned (v0_) ∧ Kd.V k30 30 w' w.heap.size (fun k_ => (P0_1_ k_ ∨ w.heap.size ≤ k_)) v0_ r ∧ Below w.heap.size w w' := by
  have hu30 := Try.underlying30
  have HO0_1 := Aside0.mk (show Kd.V k30 30 w w.heap.size (fun k_ => (P0_1_ k_ ∨ w.heap.size ≤ k_)) (.slice A0_1 l0_1.length c0_1) l0_1 from Kd.V_mono hs0_1 (fun k_ hk => .inl hk))
  have HB := Aside0.mk (Below.refl w.heap.size w)
  have H : (if a0_0 < 0 then (some ([] : List (S30))) else (some l0_1)) = some r := h
  clear h
  by_cases c2 : a0_0 < 0
  · rw [if_pos c2] at H
    have c2b0 : decide (a0_0 < 0) = true := decide_eq_true c2
    clear c2
    obtain rfl := Option.some.inj H
    go_enter Try.func74, Try.ntmps74
    go_wp2_with (first | ((with_reducible refine gate_dst (N := 1) rfl ?_); refine box_event ?hg (N := 1) ?hd (cs := #[.int .i64 a0_0, .slice A0_1 l0_1.length c0_1]) (t := 30) ?hr ?_; (case hd => rfl); (case hg => rfl); (case hr => first | (go_simp; done) | (go_simp; rfl)); intro gb169 hg w3 hbox hb; have n0_ := Aside0.mk (Kd.V_below (Kd.V_elderB (by (with_reducible repeat (first | apply Kd.V_alloc | apply Kd.V_drewN | apply Kd.V_drew)); exact HO0_1.out) gb169 (Nat.le_of_eq hg.symm)) hb); have n1_ := Aside0.mk (below_step (by repeat (first | (with_reducible first | exact HB.out | apply below_alloc | apply pw_below_drewN | apply below_drew1) | exact HB.out)) hb); have n2_ := Aside0.mk (hbox); have n3_ := Aside0.mk ((by rw [hg]; exact (below_size (by repeat (first | (with_reducible first | exact HB.out | apply below_alloc | apply pw_below_drewN | apply below_drew1) | exact HB.out))) : w.heap.size ≤ gb169)); have n4_ := Aside0.mk ((by rw [hg]; exact (below_size (by repeat (first | (with_reducible first | exact HB.out | apply below_alloc | apply pw_below_drewN | apply below_drew1) | exact HB.out))) : w.heap.size ≤ gb169)); clear HO0_1; clear HB; have HO0_1 := n0_; have HB := n1_; have BK169 := n2_; have GW169 := n3_; have GE169 := n4_; clear n0_ n1_ n2_ n3_ n4_; clear hb hbox hg; have hcz4_0 : w3.cell? ⟨gb169, 0, none⟩ = some (.int .i64 a0_0) := (blk_cell BK169.out 0).trans rfl; have hcz4_1 : w3.cell? ⟨gb169, 1, none⟩ = some (.slice A0_1 l0_1.length c0_1) := (blk_cell BK169.out 1).trans rfl; have hfz4_0 := blk_frozen BK169.out 0; have hfz4_1 := blk_frozen BK169.out 1))
    go_ret
    exact ⟨_, by first | rfl | (simp [errW_none, errW_some] <;> rfl) | (simp [*, errW_none, errW_some] <;> rfl), by first | exact Kd.R_nil _ _ _ _ _ | exact Kd.N_nil _ _ _ _ _ | exact Kd.V_nil _ _ _ _ _ | exact Kd.Q_nil _ _ _ _ _ | exact Kd.S_nil _ _ _ _ _, by repeat (first | (with_reducible first | exact HB.out | apply below_alloc | apply pw_below_drewN | apply below_drew1 | refine below_set ?_ GE169.out) | exact HB.out)⟩
  · rw [if_neg c2] at H
    have c2b0 : decide (a0_0 < 0) = false := decide_eq_false c2
    clear c2
    obtain rfl := Option.some.inj H
    go_enter Try.func74, Try.ntmps74
    go_wp2_with (first | ((with_reducible refine gate_dst (N := 1) rfl ?_); refine box_event ?hg (N := 1) ?hd (cs := #[.int .i64 a0_0, .slice A0_1 l0_1.length c0_1]) (t := 30) ?hr ?_; (case hd => rfl); (case hg => rfl); (case hr => first | (go_simp; done) | (go_simp; rfl)); intro gb169 hg w5 hbox hb; have n0_ := Aside0.mk (Kd.V_below (Kd.V_elderB (by (with_reducible repeat (first | apply Kd.V_alloc | apply Kd.V_drewN | apply Kd.V_drew)); exact HO0_1.out) gb169 (Nat.le_of_eq hg.symm)) hb); have n1_ := Aside0.mk (below_step (by repeat (first | (with_reducible first | exact HB.out | apply below_alloc | apply pw_below_drewN | apply below_drew1) | exact HB.out)) hb); have n2_ := Aside0.mk (hbox); have n3_ := Aside0.mk ((by rw [hg]; exact (below_size (by repeat (first | (with_reducible first | exact HB.out | apply below_alloc | apply pw_below_drewN | apply below_drew1) | exact HB.out))) : w.heap.size ≤ gb169)); have n4_ := Aside0.mk ((by rw [hg]; exact (below_size (by repeat (first | (with_reducible first | exact HB.out | apply below_alloc | apply pw_below_drewN | apply below_drew1) | exact HB.out))) : w.heap.size ≤ gb169)); clear HO0_1; clear HB; have HO0_1 := n0_; have HB := n1_; have BK169 := n2_; have GW169 := n3_; have GE169 := n4_; clear n0_ n1_ n2_ n3_ n4_; clear hb hbox hg; have hcz6_0 : w5.cell? ⟨gb169, 0, none⟩ = some (.int .i64 a0_0) := (blk_cell BK169.out 0).trans rfl; have hcz6_1 : w5.cell? ⟨gb169, 1, none⟩ = some (.slice A0_1 l0_1.length c0_1) := (blk_cell BK169.out 1).trans rfl; have hfz6_0 := blk_frozen BK169.out 0; have hfz6_1 := blk_frozen BK169.out 1))
    go_ret
    exact ⟨_, by first | rfl | (simp [errW_none, errW_some] <;> rfl) | (simp [*, errW_none, errW_some] <;> rfl), by (with_reducible repeat (first | apply Kd.V_alloc | apply Kd.V_drewN | apply Kd.V_drew)); exact Kd.V_mono HO0_1.out (fun _ hk => hk.1), by repeat (first | (with_reducible first | exact HB.out | apply below_alloc | apply pw_below_drewN | apply below_drew1 | refine below_set ?_ GE169.out) | exact HB.out)⟩
end Go.Proofs.Ytpfddihcikiofaa.P
end
section
namespace Go.Proofs.Ytpfddihcikiofaa.P
open Go.RowKit Go.Proofs.YtpfddihcikiofaaW.PrintWords Go.Proofs.YtpfddihcikiofaaW.PrintLast Go.Proofs.YtpfddihcikiofaaW.PrintMore
attribute [local go_sem] max2_int min2_int max_two min_two max_three min_three max_four min_four
set_option linter.unusedVariables false
set_option linter.unusedSimpArgs false
mutual
def term_Clone.l0 : Nat → List (S30) → Int → Int → Int → List (S30) → Option (Int × (List (S30)))
  | 0, _, _, _, _, _ => none
  | k + 1, x10, x11, x12, x196000, x196001 => if x12 < x11 then (if 0 ≤ x12 then (if x12 < (x10.length : Int) then ((term_Clone.f k ((rd_T30 x10 x12).f0) ((rd_T30 x10 x12).f1)).bind fun bt201 => (if x196001.length < 4398046511104 then (term_Clone.l0 k x10 x11 (wrap64 (x12 + 1)) x196000 (x196001 ++ [(⟨bt201.1, bt201.2⟩ : S30)])) else (none))) else (none)) else (none)) else (some (x196000, x196001))
def term_Clone.f : Nat → Int → List (S30) → Option (Int × (List (S30)))
  | 0, _, _ => none
  | k + 1, a0_0, l0_1 => (term_parts.f a0_0 l0_1).bind fun t196 => (term_Clone.l0 k t196 (t196.length : Int) 0 a0_0 ([] : List (S30)))
end
def term_Clone.T5 : Bool × List (List Nat × List Nat) := (true, [([], []), ([0], [0]), ([], []), ([2], [2]), ([3], [3]), ([1, 4, 3], [1, 4]), ([0, 1, 2, 3, 4, 5], []), ([6, 5, 5, 0, 1, 2, 3, 4, 5], [5, 6])])
def term_Clone.B5 : List Nat := [0, 1, 0, 4, 12, 31, 63, 127]
theorem term_Clone.tab5 : rtab .any (opsOf Try.f38 5) = term_Clone.T5 := by kernel_rfl
theorem term_Clone.bits5 : waitsOk term_Clone.T5.2 term_Clone.B5 = true := by kernel_rfl
set_option maxHeartbeats 8000000 in
set_option maxRecDepth 100000 in
theorem term_Clone.calls (k : Nat) : ∀ (a0_0 : Int) (A0_1 : Option Addr) (c0_1 : Nat) (l0_1 : List (S30)) (r1 : Int) (r2 : List (S30)) (w : World) (hr0_1 : Kd.C k30 w A0_1 l0_1.length l0_1) (hc0_1 : l0_1.length ≤ c0_1) (h : term_Clone.f k a0_0 l0_1 = some (r1, r2)),
    Calls Try.prog 38 #[.agg #[.int .i64 a0_0, .slice A0_1 l0_1.length c0_1]] w fun e w' => ∃ v1_ : Value, e = .returned (.agg #[.int .i64 r1, v1_]) ∧ Kd.R k30 30 w' w.heap.size (fun _ => True) v1_ r2 ∧ Below w.heap.size w w' := by
  induction k using Nat.strongRecOn with
  | _ k ih =>
  intro a0_0 A0_1 c0_1 l0_1 r1 r2 w hr0_1 hc0_1 h
  cases k with
  | zero => exact absurd h (by simp [term_Clone.f])
  | succ k =>
  simp only [term_Clone.f] at h
  have hu30 := Try.underlying30
  have HR0_1 := Aside0.mk hr0_1
  have HC0_1 := Aside0.mk hc0_1
  clear hr0_1 hc0_1
  have HB := Aside0.mk (Below.refl w.heap.size w)
  have H : ((term_parts.f a0_0 l0_1).bind fun t196 => (term_Clone.l0 k t196 (t196.length : Int) 0 a0_0 ([] : List (S30)))) = some (r1, r2) := h
  clear h
  replace H := Option.bind_eq_some_iff.mp H
  obtain ⟨t196, A20, H⟩ := H
  replace H : (term_Clone.l0 k t196 (t196.length : Int) 0 a0_0 ([] : List (S30))) = some (r1, r2) := H
  have A2 := Aside0.mk A20
  clear A20
  have H' := Aside0.mk H
  clear H
  go_enter Try.func38, Try.ntmps38
  go_wp2_with (first | ((with_reducible refine gate_dst (N := 1) rfl ?_); refine box_event ?hg (N := 1) ?hd (cs := #[.int .i64 a0_0, .slice A0_1 l0_1.length c0_1]) (t := 30) ?hr ?_; (case hd => rfl); (case hg => rfl); (case hr => first | (go_simp; done) | (go_simp; rfl)); intro gb193 hg w3 hbox hb; have n0_ := Aside0.mk (below_step (by repeat (first | (with_reducible first | exact HB.out | apply below_alloc | apply pw_below_drewN | apply below_drew1) | exact HB.out)) hb); have n1_ := Aside0.mk (hbox); have n2_ := Aside0.mk ((by rw [hg]; exact (below_size (by repeat (first | (with_reducible first | exact HB.out | apply below_alloc | apply pw_below_drewN | apply below_drew1) | exact HB.out))) : w.heap.size ≤ gb193)); have n3_ := Aside0.mk ((by rw [hg]; exact (below_size (by repeat (first | (with_reducible first | exact HB.out | apply below_alloc | apply pw_below_drewN | apply below_drew1) | exact HB.out))) : w.heap.size ≤ gb193)); clear HB; have HB := n0_; have BK193 := n1_; have GW193 := n2_; have GE193 := n3_; clear n0_ n1_ n2_ n3_; clear hb hbox hg) | ((with_reducible refine gate_dst (N := 2) rfl ?_); refine box_event ?hg (N := 2) ?hd (cs := #[.int .i64 0, .slice none 0 0]) (t := 30) ?hr ?_; (case hd => rfl); (case hg => rfl); (case hr => first | (go_simp; done) | (go_simp; rfl)); intro gb194 hg w4 hbox hb; have n0_ := Aside0.mk (blk_below (g := gb193) (o := .cells #[.int .i64 a0_0, .slice A0_1 l0_1.length c0_1] 30 (0, 0)) (by (with_reducible repeat (first | refine blk_drewN ?_ _ | refine blk_drew ?_ | refine blk_alloc ?_ _)); exact BK193.out) hb); have n1_ := Aside0.mk (below_step (by repeat (first | (with_reducible first | exact HB.out | apply below_alloc | apply pw_below_drewN | apply below_drew1 | refine below_set ?_ GE193.out) | exact HB.out)) hb); have n2_ := Aside0.mk (hbox); have n3_ := Aside0.mk ((by rw [hg]; exact (below_size (by repeat (first | (with_reducible first | exact HB.out | apply below_alloc | apply pw_below_drewN | apply below_drew1 | refine below_set ?_ GE193.out) | exact HB.out))) : w.heap.size ≤ gb194)); have n4_ := Aside0.mk ((by rw [hg]; exact (below_size (by repeat (first | (with_reducible first | exact HB.out | apply below_alloc | apply pw_below_drewN | apply below_drew1 | refine below_set ?_ GE193.out) | exact HB.out))) : w.heap.size ≤ gb194)); have n5_ := Aside0.mk ((by rw [hg]; exact Nat.ne_of_lt (blk_lt (g := gb193) (o := .cells #[.int .i64 a0_0, .slice A0_1 l0_1.length c0_1] 30 (0, 0)) (by (with_reducible repeat (first | refine blk_drewN ?_ _ | refine blk_drew ?_ | refine blk_alloc ?_ _)); exact BK193.out)) : gb193 ≠ gb194)); have n6_ := Aside0.mk ((by rw [hg]; exact Nat.ne_of_gt (blk_lt (g := gb193) (o := .cells #[.int .i64 a0_0, .slice A0_1 l0_1.length c0_1] 30 (0, 0)) (by (with_reducible repeat (first | refine blk_drewN ?_ _ | refine blk_drew ?_ | refine blk_alloc ?_ _)); exact BK193.out)) : gb194 ≠ gb193)); clear BK193; clear HB; have BK193 := n0_; have HB := n1_; have BK194 := n2_; have GW194 := n3_; have GE194 := n4_; have NB193_194 := n5_; have NB194_193 := n6_; clear n0_ n1_ n2_ n3_ n4_ n5_ n6_; clear hb hbox hg; have hnb5 := NB193_194.out; have hnc5 := NB194_193.out; have hcz6_0 : w4.cell? ⟨gb193, 0, none⟩ = some (.int .i64 a0_0) := (blk_cell BK193.out 0).trans rfl; have hcz6_1 : w4.cell? ⟨gb193, 1, none⟩ = some (.slice A0_1 l0_1.length c0_1) := (blk_cell BK193.out 1).trans rfl; have hfz6_0 := blk_frozen BK193.out 0; have hfz6_1 := blk_frozen BK193.out 1) | ((with_reducible refine gate_dst (N := 3) rfl ?_); refine box_event ?hg (N := 3) ?hd (cs := #[.int .i64 0, .slice none 0 0]) (t := 30) ?hr ?_; (case hd => rfl); (case hg => rfl); (case hr => first | (go_simp; done) | (go_simp; rfl)); intro gb195 hg w7 hbox hb; have n0_ := Aside0.mk (blk_below (g := gb193) (o := .cells #[.int .i64 a0_0, .slice A0_1 l0_1.length c0_1] 30 (0, 0)) (by (with_reducible repeat (first | refine blk_drewN ?_ _ | refine blk_drew ?_ | refine blk_alloc ?_ _)); exact BK193.out) hb); have n1_ := Aside0.mk (blk_below (g := gb194) (o := .cells #[.int .i64 0, .slice none 0 0] 30 (0, 0)) (by (with_reducible repeat (first | refine blk_drewN ?_ _ | refine blk_drew ?_ | refine blk_alloc ?_ _)); exact BK194.out) hb); have n2_ := Aside0.mk (below_step (by repeat (first | (with_reducible first | exact HB.out | apply below_alloc | apply pw_below_drewN | apply below_drew1 | refine below_set ?_ GE193.out | refine below_set ?_ GE194.out) | exact HB.out)) hb); have n3_ := Aside0.mk (hbox); have n4_ := Aside0.mk ((by rw [hg]; exact (below_size (by repeat (first | (with_reducible first | exact HB.out | apply below_alloc | apply pw_below_drewN | apply below_drew1 | refine below_set ?_ GE193.out | refine below_set ?_ GE194.out) | exact HB.out))) : w.heap.size ≤ gb195)); have n5_ := Aside0.mk ((by rw [hg]; exact (below_size (by repeat (first | (with_reducible first | exact HB.out | apply below_alloc | apply pw_below_drewN | apply below_drew1 | refine below_set ?_ GE193.out | refine below_set ?_ GE194.out) | exact HB.out))) : w.heap.size ≤ gb195)); have n6_ := Aside0.mk ((by rw [hg]; exact Nat.ne_of_lt (blk_lt (g := gb193) (o := .cells #[.int .i64 a0_0, .slice A0_1 l0_1.length c0_1] 30 (0, 0)) (by (with_reducible repeat (first | refine blk_drewN ?_ _ | refine blk_drew ?_ | refine blk_alloc ?_ _)); exact BK193.out)) : gb193 ≠ gb195)); have n7_ := Aside0.mk ((by rw [hg]; exact Nat.ne_of_gt (blk_lt (g := gb193) (o := .cells #[.int .i64 a0_0, .slice A0_1 l0_1.length c0_1] 30 (0, 0)) (by (with_reducible repeat (first | refine blk_drewN ?_ _ | refine blk_drew ?_ | refine blk_alloc ?_ _)); exact BK193.out)) : gb195 ≠ gb193)); have n8_ := Aside0.mk ((by rw [hg]; exact Nat.ne_of_lt (blk_lt (g := gb194) (o := .cells #[.int .i64 0, .slice none 0 0] 30 (0, 0)) (by (with_reducible repeat (first | refine blk_drewN ?_ _ | refine blk_drew ?_ | refine blk_alloc ?_ _)); exact BK194.out)) : gb194 ≠ gb195)); have n9_ := Aside0.mk ((by rw [hg]; exact Nat.ne_of_gt (blk_lt (g := gb194) (o := .cells #[.int .i64 0, .slice none 0 0] 30 (0, 0)) (by (with_reducible repeat (first | refine blk_drewN ?_ _ | refine blk_drew ?_ | refine blk_alloc ?_ _)); exact BK194.out)) : gb195 ≠ gb194)); clear BK193; clear BK194; clear HB; have BK193 := n0_; have BK194 := n1_; have HB := n2_; have BK195 := n3_; have GW195 := n4_; have GE195 := n5_; have NB193_195 := n6_; have NB195_193 := n7_; have NB194_195 := n8_; have NB195_194 := n9_; clear n0_ n1_ n2_ n3_ n4_ n5_ n6_ n7_ n8_ n9_; clear hb hbox hg; have hnb8 := NB195_193.out; have hnc8 := NB193_195.out; have hnb9 := NB195_194.out; have hnc9 := NB194_195.out; have hcz10_0 : w7.cell? ⟨gb195, 0, none⟩ = some (.int .i64 0) := (blk_cell BK195.out 0).trans rfl; have hcz10_1 : w7.cell? ⟨gb195, 1, none⟩ = some (.slice none 0 0) := (blk_cell BK195.out 1).trans rfl; have hfz10_0 := blk_frozen BK195.out 0; have hfz10_1 := blk_frozen BK195.out 1) | ((with_reducible refine gate_store (t := 30) (p := 3) rfl ?_); refine store_event (t := 30) (p := 3) (v := ?vo_w11) (w1 := ((w7.setCell ⟨gb195, 0, none⟩ (.int .i64 a0_0)).setCell ⟨gb195, 1, none⟩ (.slice none 0 0))) ?hg ?ho ?hn ?hr ?_; (case ho => rfl); (case hg => rfl); (case hn => rfl); (case hr => first | (go_simp; done) | (go_simp; rfl)); intro w11 hw; have n0_ : Aside0 (w11.heap[gb193]? = some (.cells #[.int .i64 a0_0, .slice A0_1 l0_1.length c0_1] 30 (0, 0))) := ⟨(by rw [hw]; exact (by (with_reducible repeat (first | refine blk_drewN ?_ _ | refine blk_drew ?_ | refine blk_alloc ?_ _)); refine blk_far ?_ NB193_195.out _; (with_reducible repeat (first | refine blk_drewN ?_ _ | refine blk_drew ?_ | refine blk_alloc ?_ _)); refine blk_far ?_ NB193_195.out _; (with_reducible repeat (first | refine blk_drewN ?_ _ | refine blk_drew ?_ | refine blk_alloc ?_ _)); exact BK193.out))⟩; have n1_ : Aside0 (w11.heap[gb194]? = some (.cells #[.int .i64 0, .slice none 0 0] 30 (0, 0))) := ⟨(by rw [hw]; exact (by (with_reducible repeat (first | refine blk_drewN ?_ _ | refine blk_drew ?_ | refine blk_alloc ?_ _)); refine blk_far ?_ NB194_195.out _; (with_reducible repeat (first | refine blk_drewN ?_ _ | refine blk_drew ?_ | refine blk_alloc ?_ _)); refine blk_far ?_ NB194_195.out _; (with_reducible repeat (first | refine blk_drewN ?_ _ | refine blk_drew ?_ | refine blk_alloc ?_ _)); exact BK194.out))⟩; have n2_ : Aside0 (w11.heap[gb195]? = some (.cells #[.int .i64 a0_0, .slice none 0 0] 30 (0, 0))) := ⟨(by rw [hw]; exact (by (with_reducible repeat (first | refine blk_drewN ?_ _ | refine blk_drew ?_ | refine blk_alloc ?_ _)); refine blk_put (cs := #[.int .i64 a0_0, .slice none 0 0]) ?_ 1 _ rfl; (with_reducible repeat (first | refine blk_drewN ?_ _ | refine blk_drew ?_ | refine blk_alloc ?_ _)); refine blk_put (cs := #[.int .i64 0, .slice none 0 0]) ?_ 0 _ rfl; (with_reducible repeat (first | refine blk_drewN ?_ _ | refine blk_drew ?_ | refine blk_alloc ?_ _)); exact BK195.out))⟩; have n3_ : Aside0 (Below w.heap.size w w11) := ⟨(by rw [hw]; exact (by repeat (first | (with_reducible first | exact HB.out | apply below_alloc | apply pw_below_drewN | apply below_drew1 | refine below_set ?_ GE193.out | refine below_set ?_ GE194.out | refine below_set ?_ GE195.out) | exact HB.out)))⟩; clear hw; clear BK193; clear BK194; clear BK195; clear HB; have BK193 := n0_; have BK194 := n1_; have BK195 := n2_; have HB := n3_; clear n0_ n1_ n2_ n3_; have hcz12_0 : w11.cell? ⟨gb193, 0, none⟩ = some (.int .i64 a0_0) := (blk_cell BK193.out 0).trans rfl; have hcz12_1 : w11.cell? ⟨gb193, 1, none⟩ = some (.slice A0_1 l0_1.length c0_1) := (blk_cell BK193.out 1).trans rfl; have hfz12_0 := blk_frozen BK193.out 0; have hfz12_1 := blk_frozen BK193.out 1) | ((with_reducible refine gate_callee (f := 74) rfl ?_); refine goesL_ (some 10) rfl rfl Try.func74 (by kernel_rfl) rfl #[.agg #[.int .i64 a0_0, .slice A0_1 l0_1.length c0_1]] rfl (by (try simp only [List.map_toArray, List.map_cons, List.map_nil]); first | done | rfl | (simp only [List.length_drop, List.length_take]; rfl)) ?_; (with_reducible refine (term_parts.calls a0_0 (fun k_ => k_ < w.heap.size) _ _ l0_1 t196 _ ?side1 A2.out).mono ?_); (case side1 => exact Kd.V_mk HC0_1.out (Kd.F_below (Kd.C_F k30_heap HR0_1.out) (by repeat (first | (with_reducible first | exact HB.out | apply below_alloc | apply pw_below_drewN | apply below_drew1 | refine below_set ?_ GE193.out | refine below_set ?_ GE194.out | refine below_set ?_ GE195.out) | exact HB.out)))); rintro e w13 ⟨v197, rfl, ho0, hb⟩; refine ⟨_, rfl, ?_⟩; have n0_ := Aside0.mk (Kd.V_lower (Kd.V_mono (ok' := fun k_ => k_ ≠ gb193 ∧ k_ ≠ gb194 ∧ k_ ≠ gb195) ho0 (fun k_ hk_ => ⟨Or.elim hk_ (fun hs_ => fun e_ => Nat.not_le.2 hs_ (by rw [e_]; exact GW193.out)) (fun hn_ => (Kd.freshB (g := gb193) (o := .cells #[.int .i64 a0_0, .slice A0_1 l0_1.length c0_1] 30 (0, 0)) (by (with_reducible repeat (first | refine blk_drewN ?_ _ | refine blk_drew ?_ | refine blk_alloc ?_ _)); exact BK193.out) k_ hn_)), Or.elim hk_ (fun hs_ => fun e_ => Nat.not_le.2 hs_ (by rw [e_]; exact GW194.out)) (fun hn_ => (Kd.freshB (g := gb194) (o := .cells #[.int .i64 0, .slice none 0 0] 30 (0, 0)) (by (with_reducible repeat (first | refine blk_drewN ?_ _ | refine blk_drew ?_ | refine blk_alloc ?_ _)); exact BK194.out) k_ hn_)), Or.elim hk_ (fun hs_ => fun e_ => Nat.not_le.2 hs_ (by rw [e_]; exact GW195.out)) (fun hn_ => (Kd.freshB (g := gb195) (o := .cells #[.int .i64 a0_0, .slice none 0 0] 30 (0, 0)) (by (with_reducible repeat (first | refine blk_drewN ?_ _ | refine blk_drew ?_ | refine blk_alloc ?_ _)); exact BK195.out) k_ hn_))⟩)) (below_size (by repeat (first | (with_reducible first | exact HB.out | apply below_alloc | apply pw_below_drewN | apply below_drew1 | refine below_set ?_ GE193.out | refine below_set ?_ GE194.out | refine below_set ?_ GE195.out) | exact HB.out)))); have n1_ := Aside0.mk (blk_below (g := gb193) (o := .cells #[.int .i64 a0_0, .slice A0_1 l0_1.length c0_1] 30 (0, 0)) (by (with_reducible repeat (first | refine blk_drewN ?_ _ | refine blk_drew ?_ | refine blk_alloc ?_ _)); exact BK193.out) hb); have n2_ := Aside0.mk (blk_below (g := gb194) (o := .cells #[.int .i64 0, .slice none 0 0] 30 (0, 0)) (by (with_reducible repeat (first | refine blk_drewN ?_ _ | refine blk_drew ?_ | refine blk_alloc ?_ _)); exact BK194.out) hb); have n3_ := Aside0.mk (blk_below (g := gb195) (o := .cells #[.int .i64 a0_0, .slice none 0 0] 30 (0, 0)) (by (with_reducible repeat (first | refine blk_drewN ?_ _ | refine blk_drew ?_ | refine blk_alloc ?_ _)); exact BK195.out) hb); have n4_ := Aside0.mk (below_step (by repeat (first | (with_reducible first | exact HB.out | apply below_alloc | apply pw_below_drewN | apply below_drew1 | refine below_set ?_ GE193.out | refine below_set ?_ GE194.out | refine below_set ?_ GE195.out) | exact HB.out)) hb); clear BK193; clear BK194; clear BK195; clear HB; have HO198 := n0_; have BK193 := n1_; have BK194 := n2_; have BK195 := n3_; have HB := n4_; clear n0_ n1_ n2_ n3_ n4_; (try clear hb); (try clear hb2); (try clear hk); (try clear hi); (try clear ho0); obtain ⟨Ao14, co14, eo14⟩ := Kd.V_slice HO198.out; subst eo14))
  go_loopg [12] k (fun kq v12 w' => ∃ (x12_1 : Int) (x196001_1 : List (S30)) (u196001 : Value), v12 = .int .i64 x12_1 ∧ Aside0 (term_Clone.l0 kq t196 (t196.length : Int) x12_1 a0_0 x196001_1 = some (r1, r2)) ∧ Aside0 (kq ≤ k) ∧ Aside0 (Kd.V k30 30 w' w.heap.size (fun k_ => some k_ ≠ (u196001 : Value).ownBlock ∧ k_ ≠ gb193 ∧ k_ ≠ gb194 ∧ k_ ≠ gb195) (.slice Ao14 t196.length co14) t196) ∧ Aside0 (Kd.R k30 30 w' w.heap.size (fun k_ => k_ ≠ gb193 ∧ k_ ≠ gb194 ∧ k_ ≠ gb195) u196001 x196001_1) ∧ Aside0 (w'.heap[gb193]? = some (.cells #[.int .i64 a0_0, (.slice A0_1 l0_1.length c0_1)] 30 (0, 0))) ∧ Aside0 (w'.heap[gb194]? = some (.cells #[.int .i64 0, (.slice none 0 0)] 30 (0, 0))) ∧ Aside0 (w'.heap[gb195]? = some (.cells #[.int .i64 a0_0, u196001] 30 (0, 0))) ∧ Aside0 (Below w.heap.size w w'))
  case atStart => exact ⟨(0), (([] : List (S30))), (.slice none 0 0), (by first | rfl | (simp; done) | (simp [*]; done)), H', ⟨Nat.le_refl _⟩, ⟨by (with_reducible repeat (first | apply Kd.V_alloc | apply Kd.V_drewN | apply Kd.V_drew)); exact Kd.V_mono HO198.out (fun _ hk => ⟨(by simp [Value.ownBlock]), ⟨hk.1, ⟨hk.2.1, hk.2.2⟩⟩⟩)⟩, ⟨by first | exact Kd.R_nil _ _ _ _ _ | exact Kd.N_nil _ _ _ _ _ | exact Kd.V_nil _ _ _ _ _ | exact Kd.Q_nil _ _ _ _ _ | exact Kd.S_nil _ _ _ _ _⟩, ⟨by (with_reducible repeat (first | refine blk_drewN ?_ _ | refine blk_drew ?_ | refine blk_alloc ?_ _)); exact BK193.out⟩, ⟨by (with_reducible repeat (first | refine blk_drewN ?_ _ | refine blk_drew ?_ | refine blk_alloc ?_ _)); exact BK194.out⟩, ⟨by (with_reducible repeat (first | refine blk_drewN ?_ _ | refine blk_drew ?_ | refine blk_alloc ?_ _)); exact BK195.out⟩, ⟨by repeat (first | (with_reducible first | exact HB.out | apply below_alloc | apply pw_below_drewN | apply below_drew1 | refine below_set ?_ GE193.out | refine below_set ?_ GE194.out | refine below_set ?_ GE195.out) | exact HB.out)⟩⟩
  case round =>
    clear H'
    try clear p2
    try clear c3
    try clear c5
    try clear c7
    try clear c8
    try clear c9
    try clear hcz10_0
    try clear hcz10_1
    try clear hcz12_0
    try clear hcz12_1
    try clear hcz6_0
    try clear hcz6_1
    try clear hfz10_0
    try clear hfz10_1
    try clear hfz12_0
    try clear hfz12_1
    try clear hfz6_0
    try clear hfz6_1
    obtain ⟨x12_1, x196001_1, u196001, rfl, HA, HK1, HO_10, HO_196001, BK193, BK194, BK195, HB⟩ := hrel
    cases gk with
    | zero => exact absurd HA.out (by simp [term_Clone.l0])
    | succ k1 =>
      have H := HA.out
      clear HA
      simp only [term_Clone.l0] at H
      by_cases c15 : x12_1 < (t196.length : Int)
      · rw [if_pos c15] at H
        have c15b0 : decide (x12_1 < (t196.length : Int)) = true := decide_eq_true c15
        clear c15
        by_cases c16 : 0 ≤ x12_1
        · rw [if_pos c16] at H
          have c16b0 : decide (0 ≤ x12_1) = true := decide_eq_true c16
          clear c16
          by_cases c17 : x12_1 < (t196.length : Int)
          · rw [if_pos c17] at H
            have c17b0 : decide (x12_1 < (t196.length : Int)) = true := decide_eq_true c17
            clear c17
            replace H := Option.bind_eq_some_iff.mp H
            obtain ⟨⟨t201, t202⟩, A180, H⟩ := H
            replace H : (if x196001_1.length < 4398046511104 then (term_Clone.l0 k1 t196 (t196.length : Int) (wrap64 (x12_1 + 1)) a0_0 (x196001_1 ++ [(⟨t201, t202⟩ : S30)])) else (none)) = some (r1, r2) := H
            have A18 := Aside0.mk A180
            clear A180
            by_cases c19 : x196001_1.length < 4398046511104
            · rw [if_pos c19] at H
              have LMc19 := Aside0.mk c19
              clear c19
              obtain ⟨y205, hy205⟩ : ∃ y_ : List (S30), y_ = (x196001_1 ++ [(⟨t201, t202⟩ : S30)]) := ⟨_, rfl⟩
              replace H : (term_Clone.l0 k1 t196 (t196.length : Int) (wrap64 (x12_1 + 1)) a0_0 y205) = some (r1, r2) := by first | (rw [hy205]; with_reducible exact H) | (have H2_ := (Option.bind_some _ _).symm.trans H; rw [hy205]; with_reducible exact H2_) | (have H2_ := (Option.bind_some _ _).symm.trans H; with_reducible exact H2_) | with_reducible exact H | (rw [hy205]; exact H) | exact H
              have Ny205 := Aside0.mk hy205
              clear hy205
              have H' := Aside0.mk H
              clear H
              have p199 : 0 ≤ (x12_1 : Int) := of_decide_eq_true (by first | (with_reducible assumption) | assumption)
              have q199 : x12_1 < (t196.length : Int) := of_decide_eq_true (by first | (with_reducible assumption) | assumption)
              obtain ⟨ad199, A199_1, c199_1, e199, hx199_0, hx199_1, hl199_1, hi199_1⟩ := at_T30 (Kd.V_reads' HO_10.out).2.2 x12_1 p199 q199
              cases e199
              obtain ⟨ce199, hce199, hMe199, hcc199⟩ := Kd.V_get HO_10.out z30 x12_1 p199 (by first | exact q199 | exact of_decide_eq_true (by first | (with_reducible assumption) | assumption) | (have e_ := (Kd.V_reads' HO_10.out).1; omega))
              obtain ⟨ua199_1, uc199_1, rfl, ul199_1, ge199_1⟩ := k30_openF hMe199
              have hv199_1 := hcc199 1 _ rfl
              rw [add_field _ _ 1 (by omega)] at hv199_1
              replace hv199_1 := Option.some.inj (hv199_1.symm.trans hx199_1)
              injection hv199_1 with hva_ hvn_ hvc_
              rw [hva_] at ge199_1
              rw [hvc_] at ul199_1
              have HL199_1 := Aside0.mk (show Kd.V k30 30 _ w.heap.size _ _ ((rd_T30 t196 x12_1).f1) from Kd.V_mk ul199_1 ge199_1)
              clear hva_ hvn_ hvc_ ge199_1 ul199_1
              clear hcc199 hce199
              have HR199_1 := Aside0.mk hi199_1
              have HC199_1 := Aside0.mk hl199_1
              clear hi199_1 hl199_1
              replace p199 := eq_true p199
              replace q199 := eq_true q199
              try go_wp2_with (first | ((with_reducible refine gate_dst (N := 5) rfl ?_); refine box_event ?hg (N := 5) ?hd (cs := #[.int .i64 0, .slice none 0 0]) (t := 30) ?hr ?_; (case hd => rfl); (case hg => rfl); (case hr => first | (go_simp; done) | (go_simp; rfl)); intro gb200 hg w20 hbox hb; have n0_ := Aside0.mk (Kd.V_below (Kd.V_elderB (by (with_reducible repeat (first | apply Kd.V_alloc | apply Kd.V_drewN | apply Kd.V_drew)); exact HO_10.out) gb200 (Nat.le_of_eq hg.symm)) hb); have n1_ := Aside0.mk (Kd.R_below (Kd.R_elderB (by (with_reducible repeat (first | apply Kd.R_alloc | apply Kd.R_drewN | apply Kd.R_drew)); exact HO_196001.out) gb200 (Nat.le_of_eq hg.symm)) hb); have n2_ := Aside0.mk (Kd.V_below (Kd.V_elderB (by (with_reducible repeat (first | apply Kd.V_alloc | apply Kd.V_drewN | apply Kd.V_drew)); exact HL199_1.out) gb200 (Nat.le_of_eq hg.symm)) hb); have n3_ := Aside0.mk (blk_below (g := gb193) (o := .cells #[.int .i64 a0_0, .slice A0_1 l0_1.length c0_1] 30 (0, 0)) (by (with_reducible repeat (first | refine blk_drewN ?_ _ | refine blk_drew ?_ | refine blk_alloc ?_ _)); exact BK193.out) hb); have n4_ := Aside0.mk (blk_below (g := gb194) (o := .cells #[.int .i64 0, .slice none 0 0] 30 (0, 0)) (by (with_reducible repeat (first | refine blk_drewN ?_ _ | refine blk_drew ?_ | refine blk_alloc ?_ _)); exact BK194.out) hb); have n5_ := Aside0.mk (blk_below (g := gb195) (o := .cells #[.int .i64 a0_0, u196001] 30 (0, 0)) (by (with_reducible repeat (first | refine blk_drewN ?_ _ | refine blk_drew ?_ | refine blk_alloc ?_ _)); exact BK195.out) hb); have n6_ := Aside0.mk (Kd.C_below (by repeat (first | (with_reducible exact HR199_1.out) | (with_reducible refine Kd.C_alloc ?_ _) | (with_reducible refine Kd.C_drewN ?_ _) | (with_reducible refine Kd.C_drew ?_) | exact HR199_1.out)) hb); have n7_ := Aside0.mk (below_step (by repeat (first | (with_reducible first | exact HB.out | apply below_alloc | apply pw_below_drewN | apply below_drew1 | refine below_set ?_ GE193.out | refine below_set ?_ GE194.out | refine below_set ?_ GE195.out) | exact HB.out)) hb); have n8_ := Aside0.mk (hbox); have n9_ := Aside0.mk ((by rw [hg]; exact (below_size (by repeat (first | (with_reducible first | exact HB.out | apply below_alloc | apply pw_below_drewN | apply below_drew1 | refine below_set ?_ GE193.out | refine below_set ?_ GE194.out | refine below_set ?_ GE195.out) | exact HB.out))) : w.heap.size ≤ gb200)); have n10_ := Aside0.mk ((by rw [hg]; exact (below_size (by repeat (first | (with_reducible first | exact HB.out | apply below_alloc | apply pw_below_drewN | apply below_drew1 | refine below_set ?_ GE193.out | refine below_set ?_ GE194.out | refine below_set ?_ GE195.out) | exact HB.out))) : w.heap.size ≤ gb200)); have n11_ := Aside0.mk ((by rw [hg]; exact Nat.ne_of_lt (blk_lt (g := gb193) (o := .cells #[.int .i64 a0_0, .slice A0_1 l0_1.length c0_1] 30 (0, 0)) (by (with_reducible repeat (first | refine blk_drewN ?_ _ | refine blk_drew ?_ | refine blk_alloc ?_ _)); exact BK193.out)) : gb193 ≠ gb200)); have n12_ := Aside0.mk ((by rw [hg]; exact Nat.ne_of_gt (blk_lt (g := gb193) (o := .cells #[.int .i64 a0_0, .slice A0_1 l0_1.length c0_1] 30 (0, 0)) (by (with_reducible repeat (first | refine blk_drewN ?_ _ | refine blk_drew ?_ | refine blk_alloc ?_ _)); exact BK193.out)) : gb200 ≠ gb193)); have n13_ := Aside0.mk ((by rw [hg]; exact Nat.ne_of_lt (blk_lt (g := gb194) (o := .cells #[.int .i64 0, .slice none 0 0] 30 (0, 0)) (by (with_reducible repeat (first | refine blk_drewN ?_ _ | refine blk_drew ?_ | refine blk_alloc ?_ _)); exact BK194.out)) : gb194 ≠ gb200)); have n14_ := Aside0.mk ((by rw [hg]; exact Nat.ne_of_gt (blk_lt (g := gb194) (o := .cells #[.int .i64 0, .slice none 0 0] 30 (0, 0)) (by (with_reducible repeat (first | refine blk_drewN ?_ _ | refine blk_drew ?_ | refine blk_alloc ?_ _)); exact BK194.out)) : gb200 ≠ gb194)); have n15_ := Aside0.mk ((by rw [hg]; exact Nat.ne_of_lt (blk_lt (g := gb195) (o := .cells #[.int .i64 a0_0, u196001] 30 (0, 0)) (by (with_reducible repeat (first | refine blk_drewN ?_ _ | refine blk_drew ?_ | refine blk_alloc ?_ _)); exact BK195.out)) : gb195 ≠ gb200)); have n16_ := Aside0.mk ((by rw [hg]; exact Nat.ne_of_gt (blk_lt (g := gb195) (o := .cells #[.int .i64 a0_0, u196001] 30 (0, 0)) (by (with_reducible repeat (first | refine blk_drewN ?_ _ | refine blk_drew ?_ | refine blk_alloc ?_ _)); exact BK195.out)) : gb200 ≠ gb195)); clear HO_10; clear HO_196001; clear HL199_1; clear BK193; clear BK194; clear BK195; clear HR199_1; clear HB; have HO_10 := n0_; have HO_196001 := n1_; have HL199_1 := n2_; have BK193 := n3_; have BK194 := n4_; have BK195 := n5_; have HR199_1 := n6_; have HB := n7_; have BK200 := n8_; have GW200 := n9_; have GE200 := n10_; have NB193_200 := n11_; have NB200_193 := n12_; have NB194_200 := n13_; have NB200_194 := n14_; have NB195_200 := n15_; have NB200_195 := n16_; clear n0_ n1_ n2_ n3_ n4_ n5_ n6_ n7_ n8_ n9_ n10_ n11_ n12_ n13_ n14_ n15_ n16_; clear hb hbox hg; have hnb21 := NB200_193.out; have hnc21 := NB193_200.out; have hnb22 := NB200_194.out; have hnc22 := NB194_200.out; have hnb23 := NB200_195.out; have hnc23 := NB195_200.out; have hcz24_0 : w20.cell? ⟨gb200, 0, none⟩ = some (.int .i64 0) := (blk_cell BK200.out 0).trans rfl; have hcz24_1 : w20.cell? ⟨gb200, 1, none⟩ = some (.slice none 0 0) := (blk_cell BK200.out 1).trans rfl; have hfz24_0 := blk_frozen BK200.out 0; have hfz24_1 := blk_frozen BK200.out 1))
              have n0_ : Aside0 (Kd.V k30 30 ((w20.setCell ⟨gb200, 0, none⟩ (.int .i64 ((rd_T30 t196 x12_1).f0))).setCell ⟨gb200, 1, none⟩ (.slice A199_1 ((rd_T30 t196 x12_1).f1).length c199_1)) w.heap.size (fun k_ => some k_ ≠ (u196001 : Value).ownBlock ∧ k_ ≠ gb193 ∧ k_ ≠ gb194 ∧ k_ ≠ gb195 ∧ k_ ≠ gb200) (.slice (some ad199) t196.length co14) t196) := ⟨by (with_reducible repeat (first | apply Kd.V_alloc | apply Kd.V_drewN | apply Kd.V_drew)); exact Kd.V_mono (Kd.V_far (p := ⟨gb200, 1, none⟩) (Kd.V_far (p := ⟨gb200, 0, none⟩) (Kd.V_mono HO_10.out (fun k_ hk => (⟨hk, hk.2⟩ : _ ∧ k_ ≠ gb200))) (fun _ hk => hk.2) (.int .i64 ((rd_T30 t196 x12_1).f0))) (fun _ hk => hk.2) (.slice A199_1 ((rd_T30 t196 x12_1).f1).length c199_1)) (fun _ hk => ⟨hk.1.1.1, ⟨hk.1.1.2.1, ⟨hk.1.1.2.2.1, ⟨hk.1.1.2.2.2, hk.1.2⟩⟩⟩⟩)⟩
              have n1_ : Aside0 (Kd.R k30 30 ((w20.setCell ⟨gb200, 0, none⟩ (.int .i64 ((rd_T30 t196 x12_1).f0))).setCell ⟨gb200, 1, none⟩ (.slice A199_1 ((rd_T30 t196 x12_1).f1).length c199_1)) w.heap.size (fun k_ => k_ ≠ gb193 ∧ k_ ≠ gb194 ∧ k_ ≠ gb195 ∧ k_ ≠ gb200) u196001 x196001_1) := ⟨by (with_reducible repeat (first | apply Kd.R_alloc | apply Kd.R_drewN | apply Kd.R_drew)); exact Kd.R_mono (Kd.R_far (p := ⟨gb200, 1, none⟩) (Kd.R_far (p := ⟨gb200, 0, none⟩) (Kd.R_mono HO_196001.out (fun k_ hk => (⟨hk, hk.2⟩ : _ ∧ k_ ≠ gb200))) (fun _ hk => hk.2) (.int .i64 ((rd_T30 t196 x12_1).f0))) (fun _ hk => hk.2) (.slice A199_1 ((rd_T30 t196 x12_1).f1).length c199_1)) (fun _ hk => ⟨hk.1.1.1, ⟨hk.1.1.2.1, ⟨hk.1.1.2.2, hk.1.2⟩⟩⟩)⟩
              have n2_ : Aside0 (Kd.V k30 30 ((w20.setCell ⟨gb200, 0, none⟩ (.int .i64 ((rd_T30 t196 x12_1).f0))).setCell ⟨gb200, 1, none⟩ (.slice A199_1 ((rd_T30 t196 x12_1).f1).length c199_1)) w.heap.size (fun k_ => some k_ ≠ (u196001 : Value).ownBlock ∧ k_ ≠ gb193 ∧ k_ ≠ gb194 ∧ k_ ≠ gb195 ∧ k_ ≠ gb200) (.slice A199_1 ((rd_T30 t196 x12_1).f1).length c199_1) ((rd_T30 t196 x12_1).f1)) := ⟨by (with_reducible repeat (first | apply Kd.V_alloc | apply Kd.V_drewN | apply Kd.V_drew)); exact Kd.V_mono (Kd.V_far (p := ⟨gb200, 1, none⟩) (Kd.V_far (p := ⟨gb200, 0, none⟩) (Kd.V_mono HL199_1.out (fun k_ hk => (⟨hk, hk.2⟩ : _ ∧ k_ ≠ gb200))) (fun _ hk => hk.2) (.int .i64 ((rd_T30 t196 x12_1).f0))) (fun _ hk => hk.2) (.slice A199_1 ((rd_T30 t196 x12_1).f1).length c199_1)) (fun _ hk => ⟨hk.1.1.1, ⟨hk.1.1.2.1, ⟨hk.1.1.2.2.1, ⟨hk.1.1.2.2.2, hk.1.2⟩⟩⟩⟩)⟩
              have n3_ : Aside0 (((w20.setCell ⟨gb200, 0, none⟩ (.int .i64 ((rd_T30 t196 x12_1).f0))).setCell ⟨gb200, 1, none⟩ (.slice A199_1 ((rd_T30 t196 x12_1).f1).length c199_1)).heap[gb193]? = some (.cells #[.int .i64 a0_0, .slice A0_1 l0_1.length c0_1] 30 (0, 0))) := ⟨by (with_reducible repeat (first | refine blk_drewN ?_ _ | refine blk_drew ?_ | refine blk_alloc ?_ _)); refine blk_far ?_ NB193_200.out _; (with_reducible repeat (first | refine blk_drewN ?_ _ | refine blk_drew ?_ | refine blk_alloc ?_ _)); refine blk_far ?_ NB193_200.out _; (with_reducible repeat (first | refine blk_drewN ?_ _ | refine blk_drew ?_ | refine blk_alloc ?_ _)); exact BK193.out⟩
              have n4_ : Aside0 (((w20.setCell ⟨gb200, 0, none⟩ (.int .i64 ((rd_T30 t196 x12_1).f0))).setCell ⟨gb200, 1, none⟩ (.slice A199_1 ((rd_T30 t196 x12_1).f1).length c199_1)).heap[gb194]? = some (.cells #[.int .i64 0, .slice none 0 0] 30 (0, 0))) := ⟨by (with_reducible repeat (first | refine blk_drewN ?_ _ | refine blk_drew ?_ | refine blk_alloc ?_ _)); refine blk_far ?_ NB194_200.out _; (with_reducible repeat (first | refine blk_drewN ?_ _ | refine blk_drew ?_ | refine blk_alloc ?_ _)); refine blk_far ?_ NB194_200.out _; (with_reducible repeat (first | refine blk_drewN ?_ _ | refine blk_drew ?_ | refine blk_alloc ?_ _)); exact BK194.out⟩
              have n5_ : Aside0 (((w20.setCell ⟨gb200, 0, none⟩ (.int .i64 ((rd_T30 t196 x12_1).f0))).setCell ⟨gb200, 1, none⟩ (.slice A199_1 ((rd_T30 t196 x12_1).f1).length c199_1)).heap[gb195]? = some (.cells #[.int .i64 a0_0, u196001] 30 (0, 0))) := ⟨by (with_reducible repeat (first | refine blk_drewN ?_ _ | refine blk_drew ?_ | refine blk_alloc ?_ _)); refine blk_far ?_ NB195_200.out _; (with_reducible repeat (first | refine blk_drewN ?_ _ | refine blk_drew ?_ | refine blk_alloc ?_ _)); refine blk_far ?_ NB195_200.out _; (with_reducible repeat (first | refine blk_drewN ?_ _ | refine blk_drew ?_ | refine blk_alloc ?_ _)); exact BK195.out⟩
              have n6_ : Aside0 (((w20.setCell ⟨gb200, 0, none⟩ (.int .i64 ((rd_T30 t196 x12_1).f0))).setCell ⟨gb200, 1, none⟩ (.slice A199_1 ((rd_T30 t196 x12_1).f1).length c199_1)).heap[gb200]? = some (.cells #[.int .i64 ((rd_T30 t196 x12_1).f0), .slice A199_1 ((rd_T30 t196 x12_1).f1).length c199_1] 30 (0, 0))) := ⟨by (with_reducible repeat (first | refine blk_drewN ?_ _ | refine blk_drew ?_ | refine blk_alloc ?_ _)); refine blk_put (cs := #[.int .i64 ((rd_T30 t196 x12_1).f0), .slice none 0 0]) ?_ 1 _ rfl; (with_reducible repeat (first | refine blk_drewN ?_ _ | refine blk_drew ?_ | refine blk_alloc ?_ _)); refine blk_put (cs := #[.int .i64 0, .slice none 0 0]) ?_ 0 _ rfl; (with_reducible repeat (first | refine blk_drewN ?_ _ | refine blk_drew ?_ | refine blk_alloc ?_ _)); exact BK200.out⟩
              have n7_ : Aside0 (Below w.heap.size w ((w20.setCell ⟨gb200, 0, none⟩ (.int .i64 ((rd_T30 t196 x12_1).f0))).setCell ⟨gb200, 1, none⟩ (.slice A199_1 ((rd_T30 t196 x12_1).f1).length c199_1))) := ⟨by repeat (first | (with_reducible first | exact HB.out | apply below_alloc | apply pw_below_drewN | apply below_drew1 | refine below_set ?_ GE193.out | refine below_set ?_ GE194.out | refine below_set ?_ GE195.out | refine below_set ?_ GE200.out) | exact HB.out)⟩
              (try clear HO_10)
              (try clear HO_196001)
              (try clear HL199_1)
              (try clear BK193)
              (try clear BK194)
              (try clear BK195)
              (try clear BK200)
              (try clear HB)
              generalize ((w20.setCell ⟨gb200, 0, none⟩ (.int .i64 ((rd_T30 t196 x12_1).f0))).setCell ⟨gb200, 1, none⟩ (.slice A199_1 ((rd_T30 t196 x12_1).f1).length c199_1)) = w25 at n0_ n1_ n2_ n3_ n4_ n5_ n6_ n7_ ⊢
              have HO_10 := n0_
              have HO_196001 := n1_
              have HL199_1 := n2_
              have BK193 := n3_
              have BK194 := n4_
              have BK195 := n5_
              have BK200 := n6_
              have HB := n7_
              clear n0_ n1_ n2_ n3_ n4_ n5_ n6_ n7_
              have n0_ := Aside0.mk (Kd.V_drew HO_10.out)
              have n1_ := Aside0.mk (Kd.R_drew HO_196001.out)
              have n2_ := Aside0.mk (Kd.V_drew HL199_1.out)
              have n3_ := Aside0.mk (blk_drew BK193.out)
              have n4_ := Aside0.mk (blk_drew BK194.out)
              have n5_ := Aside0.mk (blk_drew BK195.out)
              have n6_ := Aside0.mk (blk_drew BK200.out)
              have n7_ := Aside0.mk (below_drew1 HB.out)
              clear HO_10
              clear HO_196001
              clear HL199_1
              clear BK193
              clear BK194
              clear BK195
              clear BK200
              clear HB
              have HO_10 := n0_
              have HO_196001 := n1_
              have HL199_1 := n2_
              have BK193 := n3_
              have BK194 := n4_
              have BK195 := n5_
              have BK200 := n6_
              have HB := n7_
              clear n0_ n1_ n2_ n3_ n4_ n5_ n6_ n7_
              refine start_ (n := 8) (S := fun w' => w'.cell? ⟨gb195, 0, none⟩ = some (.int .i64 a0_0) ∧ w'.cell? ⟨gb195, 1, none⟩ = some (u196001) ∧ w'.cell? ⟨gb200, 0, none⟩ = some (.int .i64 ((rd_T30 t196 x12_1).f0)) ∧ w'.cell? ⟨gb200, 1, none⟩ = some (.slice A199_1 ((rd_T30 t196 x12_1).f1).length c199_1)) (ds := [7]) #[false, false, false, false, false, false, false, false] (by kernel_rfl) rfl rfl ⟨(blk_cell BK195.out 0).trans rfl, (blk_cell BK195.out 1).trans rfl, (blk_cell BK200.out 0).trans rfl, (blk_cell BK200.out 1).trans rfl⟩ (fun hHeld => ?_); refine with_tabW term_Clone.tab5 term_Clone.bits5 (fun HT_ HW_ => ?_)
              generalize w25.drew = w26 at HO_10 HO_196001 HL199_1 BK193 BK194 BK195 BK200 HB hHeld ⊢
              refine pure_ (i := 0) (N := some 16) (v := ?_) (a' := ?_) #[true, false, false, false, false, false, false, false] rfl rfl (any_of HT_.out (by kernel_rfl)) (fun _ _ _ h => h) (Or.inl ⟨by rfl, ?_⟩) ?_ ?_
              rotate_left
              · intro w'
                go_simp
                with_reducible rfl
              rotate_left
              · simp only [Act.put, List.setIfInBounds_toArray, List.set_cons_zero, List.set_cons_succ, i64_w, i32_w]
                rfl
              refine take_ (i := 1) (N := some 17) (v := ?_) (a' := ?_) #[true, true, false, false, false, false, false, false] rfl rfl (take_ofW HT_.out HW_.out (by kernel_rfl)) (fun _ _ _ h => h) (Or.inl ⟨by rfl, ?_⟩) hHeld ?_ ?_
              rotate_left
              · rintro w' ⟨s0, s1, s2, s3⟩
                go_simp
                with_reducible rfl
              rotate_left
              · simp only [Act.put, List.setIfInBounds_toArray, List.set_cons_zero, List.set_cons_succ, i64_w, i32_w]
                rfl
              refine take_ (i := 2) (N := some 18) (v := ?_) (a' := ?_) #[true, true, true, false, false, false, false, false] rfl rfl (take_ofW HT_.out HW_.out (by kernel_rfl)) (fun _ _ _ h => h) (Or.inl ⟨by rfl, ?_⟩) hHeld ?_ ?_
              rotate_left
              · rintro w' ⟨s0, s1, s2, s3⟩
                go_simp
                with_reducible rfl
              rotate_left
              · simp only [Act.put, List.setIfInBounds_toArray, List.set_cons_zero, List.set_cons_succ, i64_w, i32_w]
                rfl
              refine one_ (i := 3) (N := some 19) #[true, true, true, true, false, false, false, false] rfl rfl (one_of HT_.out (by kernel_rfl)) (by decide) (fun K hK => ?_)
              refine goes_ Try.func38 (by kernel_rfl) rfl #[.agg #[.int .i64 ((rd_T30 t196 x12_1).f0), .slice A199_1 ((rd_T30 t196 x12_1).f1).length c199_1]] (by rfl) rfl rfl (by (try simp only [List.map_toArray, List.map_cons, List.map_nil]); first | done | rfl | (simp only [List.length_drop, List.length_take]; rfl)) ?_
              with_reducible refine (ih k1 (by have := HK1.out; omega) ((rd_T30 t196 x12_1).f0) _ _ ((rd_T30 t196 x12_1).f1) t201 t202 _ ?side1 ?side2 A18.out).mono ?_
              (case side1 => repeat (first | exact ((Kd.V_reads' (by (with_reducible repeat (first | apply Kd.V_alloc | apply Kd.V_drewN | apply Kd.V_drew)); exact HL199_1.out)).2.2) | (with_reducible refine Kd.C_alloc ?_ _) | (with_reducible refine Kd.C_drewN ?_ _) | (with_reducible refine Kd.C_drew ?_)))
              (case side2 => exact HC199_1.out)
              rintro e w27 ⟨v203, rfl, ho0, hb⟩
              refine ⟨_, rfl, ?_⟩
              have n0_ := Aside0.mk (Kd.V_elder' (by (with_reducible repeat (first | apply Kd.V_alloc | apply Kd.V_drewN | apply Kd.V_drew)); exact HO_10.out) (Kd.R_base ho0) hb)
              have n1_ := Aside0.mk (Kd.R_elder' (by (with_reducible repeat (first | apply Kd.R_alloc | apply Kd.R_drewN | apply Kd.R_drew)); exact HO_196001.out) (Kd.R_base ho0) hb)
              have n2_ := Aside0.mk (Kd.V_elder' (by (with_reducible repeat (first | apply Kd.V_alloc | apply Kd.V_drewN | apply Kd.V_drew)); exact HL199_1.out) (Kd.R_base ho0) hb)
              have n3_ := Aside0.mk (Kd.R_lower (Kd.R_newB (Kd.R_newB (Kd.R_newB (Kd.R_newB (Kd.R_new' ho0 (Kd.R_lt (by (with_reducible repeat (first | apply Kd.R_alloc | apply Kd.R_drewN | apply Kd.R_drew)); exact HO_196001.out))) (g := gb193) (o := .cells #[.int .i64 a0_0, .slice A0_1 l0_1.length c0_1] 30 (0, 0)) (by (with_reducible repeat (first | refine blk_drewN ?_ _ | refine blk_drew ?_ | refine blk_alloc ?_ _)); exact BK193.out)) (g := gb194) (o := .cells #[.int .i64 0, .slice none 0 0] 30 (0, 0)) (by (with_reducible repeat (first | refine blk_drewN ?_ _ | refine blk_drew ?_ | refine blk_alloc ?_ _)); exact BK194.out)) (g := gb195) (o := .cells #[.int .i64 a0_0, u196001] 30 (0, 0)) (by (with_reducible repeat (first | refine blk_drewN ?_ _ | refine blk_drew ?_ | refine blk_alloc ?_ _)); exact BK195.out)) (g := gb200) (o := .cells #[.int .i64 ((rd_T30 t196 x12_1).f0), .slice A199_1 ((rd_T30 t196 x12_1).f1).length c199_1] 30 (0, 0)) (by (with_reducible repeat (first | refine blk_drewN ?_ _ | refine blk_drew ?_ | refine blk_alloc ?_ _)); exact BK200.out)) (below_size (by repeat (first | (with_reducible first | exact HB.out | apply below_alloc | apply pw_below_drewN | apply below_drew1 | refine below_set ?_ GE193.out | refine below_set ?_ GE194.out | refine below_set ?_ GE195.out | refine below_set ?_ GE200.out) | exact HB.out))))
              have n4_ := Aside0.mk (blk_below (g := gb193) (o := .cells #[.int .i64 a0_0, .slice A0_1 l0_1.length c0_1] 30 (0, 0)) (by (with_reducible repeat (first | refine blk_drewN ?_ _ | refine blk_drew ?_ | refine blk_alloc ?_ _)); exact BK193.out) hb)
              have n5_ := Aside0.mk (blk_below (g := gb194) (o := .cells #[.int .i64 0, .slice none 0 0] 30 (0, 0)) (by (with_reducible repeat (first | refine blk_drewN ?_ _ | refine blk_drew ?_ | refine blk_alloc ?_ _)); exact BK194.out) hb)
              have n6_ := Aside0.mk (blk_below (g := gb195) (o := .cells #[.int .i64 a0_0, u196001] 30 (0, 0)) (by (with_reducible repeat (first | refine blk_drewN ?_ _ | refine blk_drew ?_ | refine blk_alloc ?_ _)); exact BK195.out) hb)
              have n7_ := Aside0.mk (blk_below (g := gb200) (o := .cells #[.int .i64 ((rd_T30 t196 x12_1).f0), .slice A199_1 ((rd_T30 t196 x12_1).f1).length c199_1] 30 (0, 0)) (by (with_reducible repeat (first | refine blk_drewN ?_ _ | refine blk_drew ?_ | refine blk_alloc ?_ _)); exact BK200.out) hb)
              have n8_ := Aside0.mk (below_step (by repeat (first | (with_reducible first | exact HB.out | apply below_alloc | apply pw_below_drewN | apply below_drew1 | refine below_set ?_ GE193.out | refine below_set ?_ GE194.out | refine below_set ?_ GE195.out | refine below_set ?_ GE200.out) | exact HB.out)) hb)
              clear HO_10
              clear HO_196001
              clear HL199_1
              clear BK193
              clear BK194
              clear BK195
              clear BK200
              clear HB
              have HO_10 := n0_
              have HO_196001 := n1_
              have HL199_1 := n2_
              have HO204 := n3_
              have BK193 := n4_
              have BK194 := n5_
              have BK195 := n6_
              have BK200 := n7_
              have HB := n8_
              clear n0_ n1_ n2_ n3_ n4_ n5_ n6_ n7_ n8_
              (try clear hb)
              (try clear hb2)
              (try clear hk)
              (try clear hi)
              (try clear ho0)
              obtain ⟨Ao29, co29, eo29⟩ := Kd.R_slice HO204.out
              (first | subst eo29 | (injection eo29 with f1_ f2_ f3_; have f4_ := f1_.symm; have f5_ := f3_.symm; clear f1_ f2_ f3_; subst f4_; subst f5_))
              refine hK.out _ _ ⟨(blk_cell BK195.out 0).trans rfl, (blk_cell BK195.out 1).trans rfl, (blk_cell BK200.out 0).trans rfl, (blk_cell BK200.out 1).trans rfl⟩ (fun hHeld => ?_)
              clear hK K
              refine norm_ (a' := ?_) ?_ ?_
              rotate_left
              · show Act.put _ (some 19) _ = _
                simp only [Act.put, List.setIfInBounds_toArray, List.set_cons_zero, List.set_cons_succ, i64_w, i32_w]
                rfl
              refine one_ (i := 4) (N := some 20) #[true, true, true, true, true, false, false, false] rfl rfl (one_of HT_.out (by kernel_rfl)) (by decide) (fun K hK => ?_)
              refine value_ (w1 := ?_) (v := ?_) (by rfl) rfl ?_ ?_
              rotate_left 2
              · go_simp
                constructor
                · rfl
                · rfl
              refine hK.out _ _ ⟨(blk_cell (blk_alloc BK195.out _) 0).trans rfl, (blk_cell (blk_alloc BK195.out _) 1).trans rfl, (blk_cell (blk_alloc BK200.out _) 0).trans rfl, (blk_cell (blk_alloc BK200.out _) 1).trans rfl⟩ (fun hHeld => ?_)
              clear hK K
              refine norm_ (a' := ?_) ?_ ?_
              rotate_left
              · show Act.put _ (some 20) _ = _
                simp only [Act.put, List.setIfInBounds_toArray, List.set_cons_zero, List.set_cons_succ, i64_w, i32_w]
                rfl
              refine one_ (i := 5) (N := some 21) #[true, true, true, true, true, true, false, false] rfl rfl (one_of HT_.out (by kernel_rfl)) (by decide) (fun K hK => ?_)
              refine Kd.R_append_step k30 (w0 := w) w.heap.size (by rfl) (.tmp 17) (.tmp 20) 28 30 (.agg #[(.int .i64 0), (.slice none 0 0)]) 32 rfl Try.underlying28 info30 rfl (by decide) (by omega) u196001 x196001_1 (⟨t201, t202⟩ : S30) [.int .i64 t201, .slice Ao29 t202.length co29] (fun k_ => k_ ≠ gb193 ∧ k_ ≠ gb194 ∧ k_ ≠ gb195 ∧ k_ ≠ gb200) (fun k_ => ((fun k_ => k_ ≠ gb193 ∧ k_ ≠ gb194 ∧ k_ ≠ gb195 ∧ k_ ≠ gb200)) k_ ∧ some k_ ≠ (u196001 : Value).ownBlock) rfl rfl ?aP (fun _ hk => hk) ?aF ?aO ?aB ?aS ?aL ?_
              (case aP => exact k30_mkM _ _ _ (⟨t201, t202⟩ : S30) (Kd.R_mono (HO204.out) (fun k_ hk => ⟨⟨hk.1.1.1.2, ⟨hk.1.1.2, ⟨hk.1.2, hk.2⟩⟩⟩, hk.1.1.1.1.2⟩)))
              (case aB => exact (by repeat (first | (with_reducible first | exact HB.out | apply below_alloc | apply pw_below_drewN | apply below_drew1 | refine below_set ?_ GE193.out | refine below_set ?_ GE194.out | refine below_set ?_ GE195.out | refine below_set ?_ GE200.out) | exact HB.out)))
              (case aF => exact (fun k_ hk => ⟨Kd.freshB (g := gb193) (o := .cells #[.int .i64 a0_0, .slice A0_1 l0_1.length c0_1] 30 (0, 0)) (by (with_reducible repeat (first | refine blk_drewN ?_ _ | refine blk_drew ?_ | refine blk_alloc ?_ _)); exact BK193.out) k_ hk, Kd.freshB (g := gb194) (o := .cells #[.int .i64 0, .slice none 0 0] 30 (0, 0)) (by (with_reducible repeat (first | refine blk_drewN ?_ _ | refine blk_drew ?_ | refine blk_alloc ?_ _)); exact BK194.out) k_ hk, Kd.freshB (g := gb195) (o := .cells #[.int .i64 a0_0, u196001] 30 (0, 0)) (by (with_reducible repeat (first | refine blk_drewN ?_ _ | refine blk_drew ?_ | refine blk_alloc ?_ _)); exact BK195.out) k_ hk, Kd.freshB (g := gb200) (o := .cells #[.int .i64 ((rd_T30 t196 x12_1).f0), .slice A199_1 ((rd_T30 t196 x12_1).f1).length c199_1] 30 (0, 0)) (by (with_reducible repeat (first | refine blk_drewN ?_ _ | refine blk_drew ?_ | refine blk_alloc ?_ _)); exact BK200.out) k_ hk⟩))
              (case aO => exact (by (with_reducible repeat (first | apply Kd.R_alloc | apply Kd.R_drewN | apply Kd.R_drew)); exact Kd.R_mono HO_196001.out (fun _ hk => ⟨hk.1.1, ⟨hk.1.2.1, ⟨hk.1.2.2.1, hk.1.2.2.2⟩⟩⟩)))
              (case aS => exact (below_size (by repeat (first | (with_reducible first | exact HB.out | apply below_alloc | apply pw_below_drewN | apply below_drew1 | refine below_set ?_ GE193.out | refine below_set ?_ GE194.out | refine below_set ?_ GE195.out | refine below_set ?_ GE200.out) | exact HB.out))))
              (case aL => have := LMc19.out; omega)
              intro v206 w28 ho hb hg hat
              rw [← Ny205.out] at ho
              have n0_ := Aside0.mk (Kd.V_afterv (ok := (fun k_ => some k_ ≠ (.slice Ao29 t202.length co29 : Value).ownBlock ∧ k_ ≠ gb193 ∧ k_ ≠ gb194 ∧ k_ ≠ gb195 ∧ k_ ≠ gb200)) (by (with_reducible repeat (first | apply Kd.V_alloc | apply Kd.V_drewN | apply Kd.V_drew)); exact Kd.V_mono HO_10.out (fun _ hk => ⟨⟨hk.2, ⟨hk.1.2.1, ⟨hk.1.2.2.1, ⟨hk.1.2.2.2.1, hk.1.2.2.2.2⟩⟩⟩⟩, hk.1.1⟩)) hg hat)
              have n1_ := Aside0.mk (blk_grown (g := gb193) (o := .cells #[.int .i64 a0_0, .slice A0_1 l0_1.length c0_1] 30 (0, 0)) (by (with_reducible repeat (first | refine blk_drewN ?_ _ | refine blk_drew ?_ | refine blk_alloc ?_ _)); exact BK193.out) hg (Kd.R_away HO_196001.out (fun _ hk => hk.1.1)))
              have n2_ := Aside0.mk (blk_grown (g := gb194) (o := .cells #[.int .i64 0, .slice none 0 0] 30 (0, 0)) (by (with_reducible repeat (first | refine blk_drewN ?_ _ | refine blk_drew ?_ | refine blk_alloc ?_ _)); exact BK194.out) hg (Kd.R_away HO_196001.out (fun _ hk => hk.1.2.1)))
              have n3_ := Aside0.mk (blk_grown (g := gb195) (o := .cells #[.int .i64 a0_0, u196001] 30 (0, 0)) (by (with_reducible repeat (first | refine blk_drewN ?_ _ | refine blk_drew ?_ | refine blk_alloc ?_ _)); exact BK195.out) hg (Kd.R_away HO_196001.out (fun _ hk => hk.1.2.2.1)))
              have n4_ := Aside0.mk (Kd.V_afterv (ok := (fun k_ => some k_ ≠ (.slice Ao29 t202.length co29 : Value).ownBlock ∧ k_ ≠ gb193 ∧ k_ ≠ gb194 ∧ k_ ≠ gb195 ∧ k_ ≠ gb200)) (by (with_reducible repeat (first | apply Kd.V_alloc | apply Kd.V_drewN | apply Kd.V_drew)); exact Kd.V_mono HL199_1.out (fun _ hk => ⟨⟨hk.2, ⟨hk.1.2.1, ⟨hk.1.2.2.1, ⟨hk.1.2.2.2.1, hk.1.2.2.2.2⟩⟩⟩⟩, hk.1.1⟩)) hg hat)
              have n5_ := Aside0.mk (blk_grown (g := gb200) (o := .cells #[.int .i64 ((rd_T30 t196 x12_1).f0), .slice A199_1 ((rd_T30 t196 x12_1).f1).length c199_1] 30 (0, 0)) (by (with_reducible repeat (first | refine blk_drewN ?_ _ | refine blk_drew ?_ | refine blk_alloc ?_ _)); exact BK200.out) hg (Kd.R_away HO_196001.out (fun _ hk => hk.1.2.2.2)))
              have n6_ := Aside0.mk (hb)
              have n7_ := Aside0.mk (ho)
              clear HO_10
              clear BK193
              clear BK194
              clear BK195
              clear HL199_1
              clear BK200
              clear HB
              clear HO_196001
              clear HO204
              have HO_10 := n0_
              have BK193 := n1_
              have BK194 := n2_
              have BK195 := n3_
              have HL199_1 := n4_
              have BK200 := n5_
              have HB := n6_
              have HO207 := n7_
              clear n0_ n1_ n2_ n3_ n4_ n5_ n6_ n7_
              clear ho hb hg hat
              obtain ⟨Ao30, co30, eo30⟩ := Kd.R_slice HO207.out
              (first | subst eo30 | (injection eo30 with f1_ f2_ f3_; have f4_ := f1_.symm; have f5_ := f3_.symm; clear f1_ f2_ f3_; subst f4_; subst f5_))
              refine hK.out _ _ ⟨(blk_cell BK195.out 0).trans rfl, (blk_cell BK195.out 1).trans rfl, (blk_cell BK200.out 0).trans rfl, (blk_cell BK200.out 1).trans rfl⟩ (fun hHeld => ?_)
              clear hK K
              refine norm_ (a' := ?_) ?_ ?_
              rotate_left
              · show Act.put _ (some 21) _ = _
                simp only [Act.put, List.setIfInBounds_toArray, List.set_cons_zero, List.set_cons_succ, i64_w, i32_w]
                rfl
              refine pure_ (i := 6) (N := some 22) (v := ?_) (a' := ?_) #[true, true, true, true, true, true, true, false] rfl rfl (any_of HT_.out (by kernel_rfl)) (fun _ _ _ h => h) (Or.inl ⟨by rfl, ?_⟩) ?_ ?_
              rotate_left
              · intro w'
                go_simp
                with_reducible rfl
              rotate_left
              · simp only [Act.put, List.setIfInBounds_toArray, List.set_cons_zero, List.set_cons_succ, i64_w, i32_w]
                rfl
              refine last_ (i := 7) (N := none) #[true, true, true, true, true, true, true, true] rfl rfl (one_of HT_.out (by kernel_rfl)) (by decide) (fun K hK => ?_)
              have hs31 : w28.cell? ⟨gb195, 1, none⟩ = some (u196001) := (blk_cell BK195.out 1).trans rfl
              have hfs31 := blk_frozen BK195.out 1
              have hns31_0 := NB193_195.out
              have hns31_1 := NB194_195.out
              have hns31_3 := NB200_195.out
              have hms31_0 := NB195_193.out
              have hms31_1 := NB195_194.out
              have hms31_3 := NB195_200.out
              refine skip_ (w1 := ?_) (by rfl) rfl ?_ ?_
              rotate_left
              · go_simp
                rfl
              refine hK.out _ _ ?_
              clear hK K
              refine done_ (done_of HT_.out (by kernel_rfl)) ?_
              try go_wp2
              go_roundg k1
              case measure => have := HK1.out; omega
              case rel => exact ⟨(wrap64 (x12_1 + 1)), (y205), (.slice Ao30 y205.length co30), (by first | rfl | (simp; done) | (simp [*]; done)), H', ⟨by have := HK1.out; omega⟩, ⟨by (with_reducible repeat (first | apply Kd.V_alloc | apply Kd.V_drewN | apply Kd.V_drew)); exact Kd.V_mono (Kd.V_far (p := ⟨gb195, 1, none⟩) (Kd.V_mono HO_10.out (fun k_ hk => (⟨hk, hk.1.2.2.2.1⟩ : _ ∧ k_ ≠ gb195))) (fun _ hk => hk.2) (.slice Ao30 y205.length co30)) (fun _ hk => ⟨hk.1.2, ⟨hk.1.1.2.1, ⟨hk.1.1.2.2.1, hk.1.1.2.2.2.1⟩⟩⟩)⟩, ⟨by (with_reducible repeat (first | apply Kd.R_alloc | apply Kd.R_drewN | apply Kd.R_drew)); exact Kd.R_mono (Kd.R_far (p := ⟨gb195, 1, none⟩) (Kd.R_mono HO207.out (fun k_ hk => (⟨hk, hk.2.2.1⟩ : _ ∧ k_ ≠ gb195))) (fun _ hk => hk.2) (.slice Ao30 y205.length co30)) (fun _ hk => ⟨hk.1.1, ⟨hk.1.2.1, hk.1.2.2.1⟩⟩)⟩, ⟨by (with_reducible repeat (first | refine blk_drewN ?_ _ | refine blk_drew ?_ | refine blk_alloc ?_ _)); refine blk_far ?_ NB193_195.out _; (with_reducible repeat (first | refine blk_drewN ?_ _ | refine blk_drew ?_ | refine blk_alloc ?_ _)); exact BK193.out⟩, ⟨by (with_reducible repeat (first | refine blk_drewN ?_ _ | refine blk_drew ?_ | refine blk_alloc ?_ _)); refine blk_far ?_ NB194_195.out _; (with_reducible repeat (first | refine blk_drewN ?_ _ | refine blk_drew ?_ | refine blk_alloc ?_ _)); exact BK194.out⟩, ⟨by (with_reducible repeat (first | refine blk_drewN ?_ _ | refine blk_drew ?_ | refine blk_alloc ?_ _)); refine blk_put (cs := #[.int .i64 a0_0, u196001]) ?_ 1 _ rfl; (with_reducible repeat (first | refine blk_drewN ?_ _ | refine blk_drew ?_ | refine blk_alloc ?_ _)); exact BK195.out⟩, ⟨by repeat (first | (with_reducible first | exact HB.out | apply below_alloc | apply pw_below_drewN | apply below_drew1 | refine below_set ?_ GE193.out | refine below_set ?_ GE194.out | refine below_set ?_ GE195.out | refine below_set ?_ GE200.out) | exact HB.out)⟩⟩
            · rw [if_neg c19] at H
              exact absurd H (by simp)
          · rw [if_neg c17] at H
            exact absurd H (by simp)
        · rw [if_neg c16] at H
          exact absurd H (by simp)
      · rw [if_neg c15] at H
        have c15b0 : decide (x12_1 < (t196.length : Int)) = false := decide_eq_false c15
        clear c15
        simp only [Option.some.injEq, Prod.mk.injEq] at H
        obtain ⟨rfl, rfl⟩ := H
        have hnb32 := NB195_193.out
        have hnc32 := NB193_195.out
        have hnb33 := NB195_194.out
        have hnc33 := NB194_195.out
        have hcz34_0 : wr.cell? ⟨gb195, 0, none⟩ = some (.int .i64 a0_0) := (blk_cell BK195.out 0).trans rfl
        have hcz34_1 : wr.cell? ⟨gb195, 1, none⟩ = some (u196001) := (blk_cell BK195.out 1).trans rfl
        have hfz34_0 := blk_frozen BK195.out 0
        have hfz34_1 := blk_frozen BK195.out 1
        have hnb35 := NB194_193.out
        have hnc35 := NB193_194.out
        have hcz36_0 : wr.cell? ⟨gb194, 0, none⟩ = some (.int .i64 0) := (blk_cell BK194.out 0).trans rfl
        have hcz36_1 : wr.cell? ⟨gb194, 1, none⟩ = some (.slice none 0 0) := (blk_cell BK194.out 1).trans rfl
        have hfz36_0 := blk_frozen BK194.out 0
        have hfz36_1 := blk_frozen BK194.out 1
        obtain ⟨Ao37, co37, eo37⟩ := Kd.R_slice HO_196001.out
        subst eo37
        go_wp2
        refine bodyPost_ret (results_cell_row rfl _ _ gb194 30 #[.int .i64 a0_0, .slice Ao37 x196001_1.length co37] (0, 0) _ rfl (by (with_reducible repeat (first | refine blk_drewN ?_ _ | refine blk_drew ?_ | refine blk_alloc ?_ _)); refine blk_put (cs := #[.int .i64 a0_0, .slice none 0 0]) ?_ 1 _ rfl; (with_reducible repeat (first | refine blk_drewN ?_ _ | refine blk_drew ?_ | refine blk_alloc ?_ _)); refine blk_put (cs := #[.int .i64 0, .slice none 0 0]) ?_ 0 _ rfl; (with_reducible repeat (first | refine blk_drewN ?_ _ | refine blk_drew ?_ | refine blk_alloc ?_ _)); exact BK194.out) Try.underlying30 rfl (by kernel_rfl)) rfl ?_
        exact ⟨_, by first | rfl | (simp [errW_none, errW_some] <;> rfl) | (simp [*, errW_none, errW_some] <;> rfl), by (with_reducible repeat (first | apply Kd.R_alloc | apply Kd.R_drewN | apply Kd.R_drew)); exact Kd.R_mono (Kd.R_far (p := ⟨gb194, 1, none⟩) (Kd.R_far (p := ⟨gb194, 0, none⟩) (Kd.R_mono HO_196001.out (fun k_ hk => (⟨hk, hk.2.1⟩ : _ ∧ k_ ≠ gb194))) (fun _ hk => hk.2) (.int .i64 a0_0)) (fun _ hk => hk.2) (.slice Ao37 x196001_1.length co37)) (fun _ hk => trivial), by repeat (first | (with_reducible first | exact HB.out | apply below_alloc | apply pw_below_drewN | apply below_drew1 | refine below_set ?_ GE193.out | refine below_set ?_ GE194.out | refine below_set ?_ GE195.out) | exact HB.out)⟩
end Go.Proofs.Ytpfddihcikiofaa.P
end
section
namespace Go.Proofs.Ytpfddihcikiofaa.P
open Go.RowKit Go.Proofs.YtpfddihcikiofaaW.PrintWords Go.Proofs.YtpfddihcikiofaaW.PrintLast Go.Proofs.YtpfddihcikiofaaW.PrintMore
attribute [local go_sem] max2_int min2_int max_two min_two max_three min_three max_four min_four
set_option linter.unusedVariables false
set_option linter.unusedSimpArgs false
def term_Same.f (a0_0 : Int) (l0_1 : List (S30)) (a1_0 : Int) (l1_1 : List (S30)) : Option (Bool) := (term_Compare.f a0_0 l0_1 a1_0 l1_1).bind fun t263 => (some (t263 == 0))
set_option maxHeartbeats 8000000 in
set_option maxRecDepth 100000 in
theorem term_Same.calls (a0_0 : Int) (A0_1 : Option Addr) (c0_1 : Nat) (l0_1 : List (S30)) (a1_0 : Int) (A1_1 : Option Addr) (c1_1 : Nat) (l1_1 : List (S30)) (r : Bool) (w : World) (hr0_1 : Kd.C k30 w A0_1 l0_1.length l0_1) (hc0_1 : l0_1.length ≤ c0_1) (hr1_1 : Kd.C k30 w A1_1 l1_1.length l1_1) (hc1_1 : l1_1.length ≤ c1_1) (h : term_Same.f a0_0 l0_1 a1_0 l1_1 = some r) :
    Calls Try.prog 37 #[.agg #[.int .i64 a0_0, .slice A0_1 l0_1.length c0_1], .agg #[.int .i64 a1_0, .slice A1_1 l1_1.length c1_1]] w fun e w' => e = .returned (.bool r) ∧ Below w.heap.size w w' := by
  have hu30 := Try.underlying30
  have HR0_1 := Aside0.mk hr0_1
  have HC0_1 := Aside0.mk hc0_1
  clear hr0_1 hc0_1
  have HR1_1 := Aside0.mk hr1_1
  have HC1_1 := Aside0.mk hc1_1
  clear hr1_1 hc1_1
  have HB := Aside0.mk (Below.refl w.heap.size w)
  have H : ((term_Compare.f a0_0 l0_1 a1_0 l1_1).bind fun t263 => (some (t263 == 0))) = some r := h
  clear h
  replace H := Option.bind_eq_some_iff.mp H
  obtain ⟨t263, A30, H⟩ := H
  replace H : (some (t263 == 0)) = some r := H
  have A3 := Aside0.mk A30
  clear A30
  obtain rfl := Option.some.inj H
  go_enter Try.func37, Try.ntmps37
  go_wp2_with (first | ((with_reducible refine gate_dst (N := 2) rfl ?_); refine box_event ?hg (N := 2) ?hd (cs := #[.int .i64 a0_0, .slice A0_1 l0_1.length c0_1]) (t := 30) ?hr ?_; (case hd => rfl); (case hg => rfl); (case hr => first | (go_simp; done) | (go_simp; rfl)); intro gb261 hg w4 hbox hb; have n0_ := Aside0.mk (below_step (by repeat (first | (with_reducible first | exact HB.out | apply below_alloc | apply pw_below_drewN | apply below_drew1) | exact HB.out)) hb); have n1_ := Aside0.mk (hbox); have n2_ := Aside0.mk ((by rw [hg]; exact (below_size (by repeat (first | (with_reducible first | exact HB.out | apply below_alloc | apply pw_below_drewN | apply below_drew1) | exact HB.out))) : w.heap.size ≤ gb261)); have n3_ := Aside0.mk ((by rw [hg]; exact (below_size (by repeat (first | (with_reducible first | exact HB.out | apply below_alloc | apply pw_below_drewN | apply below_drew1) | exact HB.out))) : w.heap.size ≤ gb261)); clear HB; have HB := n0_; have BK261 := n1_; have GW261 := n2_; have GE261 := n3_; clear n0_ n1_ n2_ n3_; clear hb hbox hg) | ((with_reducible refine gate_dst (N := 3) rfl ?_); refine box_event ?hg (N := 3) ?hd (cs := #[.int .i64 a1_0, .slice A1_1 l1_1.length c1_1]) (t := 30) ?hr ?_; (case hd => rfl); (case hg => rfl); (case hr => first | (go_simp; done) | (go_simp; rfl)); intro gb262 hg w5 hbox hb; have n0_ := Aside0.mk (blk_below (g := gb261) (o := .cells #[.int .i64 a0_0, .slice A0_1 l0_1.length c0_1] 30 (0, 0)) (by (with_reducible repeat (first | refine blk_drewN ?_ _ | refine blk_drew ?_ | refine blk_alloc ?_ _)); exact BK261.out) hb); have n1_ := Aside0.mk (below_step (by repeat (first | (with_reducible first | exact HB.out | apply below_alloc | apply pw_below_drewN | apply below_drew1 | refine below_set ?_ GE261.out) | exact HB.out)) hb); have n2_ := Aside0.mk (hbox); have n3_ := Aside0.mk ((by rw [hg]; exact (below_size (by repeat (first | (with_reducible first | exact HB.out | apply below_alloc | apply pw_below_drewN | apply below_drew1 | refine below_set ?_ GE261.out) | exact HB.out))) : w.heap.size ≤ gb262)); have n4_ := Aside0.mk ((by rw [hg]; exact (below_size (by repeat (first | (with_reducible first | exact HB.out | apply below_alloc | apply pw_below_drewN | apply below_drew1 | refine below_set ?_ GE261.out) | exact HB.out))) : w.heap.size ≤ gb262)); have n5_ := Aside0.mk ((by rw [hg]; exact Nat.ne_of_lt (blk_lt (g := gb261) (o := .cells #[.int .i64 a0_0, .slice A0_1 l0_1.length c0_1] 30 (0, 0)) (by (with_reducible repeat (first | refine blk_drewN ?_ _ | refine blk_drew ?_ | refine blk_alloc ?_ _)); exact BK261.out)) : gb261 ≠ gb262)); have n6_ := Aside0.mk ((by rw [hg]; exact Nat.ne_of_gt (blk_lt (g := gb261) (o := .cells #[.int .i64 a0_0, .slice A0_1 l0_1.length c0_1] 30 (0, 0)) (by (with_reducible repeat (first | refine blk_drewN ?_ _ | refine blk_drew ?_ | refine blk_alloc ?_ _)); exact BK261.out)) : gb262 ≠ gb261)); clear BK261; clear HB; have BK261 := n0_; have HB := n1_; have BK262 := n2_; have GW262 := n3_; have GE262 := n4_; have NB261_262 := n5_; have NB262_261 := n6_; clear n0_ n1_ n2_ n3_ n4_ n5_ n6_; clear hb hbox hg; have hnb6 := NB261_262.out; have hnc6 := NB262_261.out; have hcz7_0 : w5.cell? ⟨gb261, 0, none⟩ = some (.int .i64 a0_0) := (blk_cell BK261.out 0).trans rfl; have hcz7_1 : w5.cell? ⟨gb261, 1, none⟩ = some (.slice A0_1 l0_1.length c0_1) := (blk_cell BK261.out 1).trans rfl; have hfz7_0 := blk_frozen BK261.out 0; have hfz7_1 := blk_frozen BK261.out 1; have hcz8_0 : w5.cell? ⟨gb262, 0, none⟩ = some (.int .i64 a1_0) := (blk_cell BK262.out 0).trans rfl; have hcz8_1 : w5.cell? ⟨gb262, 1, none⟩ = some (.slice A1_1 l1_1.length c1_1) := (blk_cell BK262.out 1).trans rfl; have hfz8_0 := blk_frozen BK262.out 0; have hfz8_1 := blk_frozen BK262.out 1) | ((with_reducible refine gate_callee (f := 36) rfl ?_); refine goesL_ (some 7) rfl rfl Try.func36 (by kernel_rfl) rfl #[.agg #[.int .i64 a0_0, .slice A0_1 l0_1.length c0_1], .agg #[.int .i64 a1_0, .slice A1_1 l1_1.length c1_1]] rfl (by (try simp only [List.map_toArray, List.map_cons, List.map_nil]); first | done | rfl | (simp only [List.length_drop, List.length_take]; rfl)) ?_; (with_reducible refine (term_Compare.calls a0_0 _ _ l0_1 a1_0 _ _ l1_1 t263 _ ?side1 ?side2 ?side3 ?side4 A3.out).mono ?_); (case side1 => repeat (first | exact (Kd.C_below HR0_1.out HB.out) | (with_reducible refine Kd.C_alloc ?_ _) | (with_reducible refine Kd.C_drewN ?_ _) | (with_reducible refine Kd.C_drew ?_))); (case side2 => exact HC0_1.out); (case side3 => repeat (first | exact (Kd.C_below HR1_1.out HB.out) | (with_reducible refine Kd.C_alloc ?_ _) | (with_reducible refine Kd.C_drewN ?_ _) | (with_reducible refine Kd.C_drew ?_))); (case side4 => exact HC1_1.out); rintro e w9 ⟨rfl, hb⟩; refine ⟨_, rfl, ?_⟩; have n0_ := Aside0.mk (blk_below (g := gb261) (o := .cells #[.int .i64 a0_0, .slice A0_1 l0_1.length c0_1] 30 (0, 0)) (by (with_reducible repeat (first | refine blk_drewN ?_ _ | refine blk_drew ?_ | refine blk_alloc ?_ _)); exact BK261.out) hb); have n1_ := Aside0.mk (blk_below (g := gb262) (o := .cells #[.int .i64 a1_0, .slice A1_1 l1_1.length c1_1] 30 (0, 0)) (by (with_reducible repeat (first | refine blk_drewN ?_ _ | refine blk_drew ?_ | refine blk_alloc ?_ _)); exact BK262.out) hb); have n2_ := Aside0.mk (below_step (by repeat (first | (with_reducible first | exact HB.out | apply below_alloc | apply pw_below_drewN | apply below_drew1 | refine below_set ?_ GE261.out | refine below_set ?_ GE262.out) | exact HB.out)) hb); clear BK261; clear BK262; clear HB; have BK261 := n0_; have BK262 := n1_; have HB := n2_; clear n0_ n1_ n2_; (try clear hb); (try clear hb2); (try clear hk); (try clear hi)))
  go_ret
  exact ⟨by first | rfl | (simp [errW_none, errW_some] <;> rfl) | (simp [*, errW_none, errW_some] <;> rfl), by repeat (first | (with_reducible first | exact HB.out | apply below_alloc | apply pw_below_drewN | apply below_drew1 | refine below_set ?_ GE261.out | refine below_set ?_ GE262.out) | exact HB.out)⟩
end Go.Proofs.Ytpfddihcikiofaa.P
end
section
namespace Go.Proofs.Ytpfddihcikiofaa.P
open Go.RowKit Go.Proofs.YtpfddihcikiofaaW.PrintWords Go.Proofs.YtpfddihcikiofaaW.PrintLast Go.Proofs.YtpfddihcikiofaaW.PrintMore
set_option linter.unusedVariables false
set_option linter.unusedSimpArgs false
theorem cmpI_neg (a b : Int) : cmpI b a = - cmpI a b := by unfold cmpI; (repeat' split) <;> omega
theorem cmpI_self (a : Int) : cmpI a a = 0 := by unfold cmpI; (repeat' split) <;> omega
theorem cmpI_range (a b : Int) : cmpI a b = -1 ∨ cmpI a b = 0 ∨ cmpI a b = 1 := by unfold cmpI; (repeat' split) <;> omega
theorem orI_neg (a b c : Int) : orI (-a) (-b) (-c) = - orI a b c := by unfold orI; (repeat' split) <;> omega
theorem orI_range {a b c : Int} (ha : a = -1 ∨ a = 0 ∨ a = 1) (hb : b = -1 ∨ b = 0 ∨ b = 1) (hc : c = -1 ∨ c = 0 ∨ c = 1) : orI a b c = -1 ∨ orI a b c = 0 ∨ orI a b c = 1 := by unfold orI; (repeat' split) <;> omega
theorem cmp_anti : ∀ x y : S30, cmpT y x = - cmpT x y := by
  refine S30.ind ?_
  intro f l ih y
  obtain ⟨g, m⟩ := y
  have hl : ∀ (l : List S30), (∀ x ∈ l, ∀ y, cmpT y x = - cmpT x y) → ∀ m, cmpTs m l = - cmpTs l m := by
    intro l
    induction l with
    | nil => intro _ m; cases m <;> simp [cmpTs]
    | cons x l ihl =>
      intro h m
      cases m with
      | nil => simp [cmpTs]
      | cons y m =>
        have h1 := h x (by simp) y
        have h2 := ihl (fun x hx => h x (by simp [hx])) m
        simp only [cmpTs, h1, h2]
        by_cases h0 : cmpT x y = 0
        · simp [h0]
        · rw [if_neg (by omega), if_neg h0]
  simp only [cmpT]
  by_cases h1 : f < 0 ∨ g < 0
  · rw [if_pos h1, if_pos h1.symm]
    by_cases h2 : f < 0 ∧ g < 0
    · rw [if_pos h2, if_pos h2.symm]; exact cmpI_neg g f
    · rw [if_neg h2, if_neg (fun h => h2 h.symm)]; exact cmpI_neg f g
  · rw [if_neg h1, if_neg (fun h => h1 h.symm), hl l ih m, cmpI_neg f g, cmpI_neg (l.length : Int) m.length, orI_neg]
theorem cmp_self : ∀ x : S30, cmpT x x = 0 := by
  intro x
  have := cmp_anti x x
  omega
theorem cmp_range : ∀ x y : S30, cmpT x y = -1 ∨ cmpT x y = 0 ∨ cmpT x y = 1 := by
  refine S30.ind ?_
  intro f l ih y
  obtain ⟨g, m⟩ := y
  have hl : ∀ (l : List S30), (∀ x ∈ l, ∀ y, cmpT x y = -1 ∨ cmpT x y = 0 ∨ cmpT x y = 1) → ∀ m, cmpTs l m = -1 ∨ cmpTs l m = 0 ∨ cmpTs l m = 1 := by
    intro l
    induction l with
    | nil => intro _ m; cases m <;> simp [cmpTs]
    | cons x l ihl =>
      intro h m
      cases m with
      | nil => simp [cmpTs]
      | cons y m =>
        have h1 := h x (by simp) y
        have h2 := ihl (fun x hx => h x (by simp [hx])) m
        simp only [cmpTs]
        split
        · exact h2
        · exact h1
  simp only [cmpT]
  split
  · split
    · exact cmpI_range _ _
    · exact cmpI_range _ _
  · exact orI_range (cmpI_range _ _) (cmpI_range _ _) (hl l ih m)
def T3 (p q r : Int) : Prop := p ≤ 0 → q ≤ 0 → r ≤ 0 ∧ (r = 0 ↔ p = 0 ∧ q = 0)
theorem T3.cmpI (a b c : Int) : T3 (cmpI a b) (cmpI b c) (cmpI a c) := by unfold T3 P.cmpI; (repeat' split) <;> omega
theorem orI_spec (a b c : Int) : (a ≠ 0 ∧ orI a b c = a) ∨ (a = 0 ∧ b ≠ 0 ∧ orI a b c = b) ∨ (a = 0 ∧ b = 0 ∧ orI a b c = c) := by unfold orI; (repeat' split) <;> omega
theorem T3.or {p q r p' q' r' p2 q2 r2 : Int} (h : T3 p q r) (h' : T3 p' q' r') (h2 : T3 p2 q2 r2) : T3 (orI p p' p2) (orI q q' q2) (orI r r' r2) := by
  have e1 := orI_spec p p' p2
  have e2 := orI_spec q q' q2
  have e3 := orI_spec r r' r2
  generalize orI p p' p2 = P at e1 ⊢
  generalize orI q q' q2 = Q at e2 ⊢
  generalize orI r r' r2 = R at e3 ⊢
  unfold T3 at *
  rcases e1 with e1 | e1 | e1 <;> rcases e2 with e2 | e2 | e2 <;> rcases e3 with e3 | e3 | e3 <;> intro h3 h4 <;> omega
theorem pick_spec (a b : Int) : (a = 0 ∧ (if a = 0 then b else a) = b) ∨ (a ≠ 0 ∧ (if a = 0 then b else a) = a) := by split <;> omega
theorem T3.pick {p q r p' q' r' : Int} (h : T3 p q r) (h' : T3 p' q' r') : T3 (if p = 0 then p' else p) (if q = 0 then q' else q) (if r = 0 then r' else r) := by
  have e1 := pick_spec p p'
  have e2 := pick_spec q q'
  have e3 := pick_spec r r'
  generalize (if p = 0 then p' else p) = P at e1 ⊢
  generalize (if q = 0 then q' else q) = Q at e2 ⊢
  generalize (if r = 0 then r' else r) = R at e3 ⊢
  unfold T3 at *
  rcases e1 with e1 | e1 <;> rcases e2 with e2 | e2 <;> rcases e3 with e3 | e3 <;> intro h3 h4 <;> omega
theorem cmp_trans : ∀ x y z : S30, T3 (cmpT x y) (cmpT y z) (cmpT x z) := by
  refine S30.ind ?_
  intro f l ih y z
  obtain ⟨g, m⟩ := y
  obtain ⟨h, n⟩ := z
  have hl : ∀ (l : List S30), (∀ x ∈ l, ∀ y z, T3 (cmpT x y) (cmpT y z) (cmpT x z)) → ∀ m n, T3 (cmpTs l m) (cmpTs m n) (cmpTs l n) := by
    intro l
    induction l with
    | nil =>
      intro _ m n
      cases m <;> cases n <;> simp [cmpTs, T3]
    | cons x l ihl =>
      intro h m n
      cases m with
      | nil => cases n <;> simp [cmpTs, T3]
      | cons y m =>
        cases n with
        | nil => simp [cmpTs, T3]
        | cons z n =>
          have h1 := h x (by simp) y z
          have h2 := ihl (fun x hx => h x (by simp [hx])) m n
          simp only [cmpTs]
          exact T3.pick h1 h2
  simp only [cmpT]
  by_cases hf : f < 0 <;> by_cases hg : g < 0 <;> by_cases hh : h < 0 <;> simp only [hf, hg, hh, true_or, or_true, true_and, and_true, false_or, or_false, and_false, false_and, and_self, or_self, if_true, if_false]
  · unfold T3 cmpI; (repeat' split) <;> omega
  · unfold T3 cmpI; (repeat' split) <;> omega
  · unfold T3 cmpI; (repeat' split) <;> omega
  · have e1 := orI_spec (cmpI g h) (cmpI m.length n.length) (cmpTs m n); generalize orI (cmpI g h) (cmpI m.length n.length) (cmpTs m n) = X at e1 ⊢; unfold T3 cmpI at *; (repeat' split) <;> omega
  · unfold T3 cmpI; (repeat' split) <;> omega
  · unfold T3 cmpI; (repeat' split) <;> omega
  · have e1 := orI_spec (cmpI f g) (cmpI l.length m.length) (cmpTs l m); generalize orI (cmpI f g) (cmpI l.length m.length) (cmpTs l m) = X at e1 ⊢; unfold T3 cmpI at *; (repeat' split) <;> omega
  · exact T3.or (T3.cmpI f g h) (T3.cmpI _ _ _) (hl l ih m n)
mutual
def cloneT : S30 → S30
  | ⟨f, l⟩ => ⟨f, if f < 0 then [] else cloneTs l⟩
def cloneTs : List S30 → List S30
  | [] => []
  | x :: r => cloneT x :: cloneTs r
end
theorem cloneTs_eq (l : List S30) : cloneTs l = l.map cloneT := by
  induction l with
  | nil => rfl
  | cons x l ih => simp [cloneTs, ih]
theorem cmp_clone : ∀ x : S30, cmpT (cloneT x) x = 0 := by
  refine S30.ind ?_
  intro f l ih
  have hl : ∀ (l : List S30), (∀ x ∈ l, cmpT (cloneT x) x = 0) → cmpTs (cloneTs l) l = 0 := by
    intro l
    induction l with
    | nil => intro _; simp [cloneTs, cmpTs]
    | cons x l ihl =>
      intro h
      simp only [cloneTs, cmpTs, h x (by simp), if_true]
      exact ihl (fun x hx => h x (by simp [hx]))
  simp only [cloneT, cmpT]
  by_cases hf : f < 0
  · simp [hf, cmpI_self]
  · simp only [hf, or_self, and_self, if_false]
    rw [hl l ih, cmpI_self, cloneTs_eq, List.length_map, cmpI_self]
    rfl
theorem Clone_spec : ∀ t : S30, ok t → Ev (fun k => term_Clone.f k t.f0 t.f1) ((cloneT t).f0, (cloneT t).f1) := by
  refine S30.ind ?_
  intro f l ih hok
  obtain ⟨_, _, hl, hks⟩ := hok
  have hloop : ∀ (q : List S30), q.length ≤ 20 → (∀ x ∈ q, x ∈ l) → ∀ (m i : Nat), q.length - i = m → i ≤ q.length → Ev (fun k => term_Clone.l0 k q (q.length : Int) (i : Int) f ((q.take i).map cloneT)) (f, q.map cloneT) := by
    intro q hq20 hql m
    induction m with
    | zero =>
      intro i hi hle
      refine Ev.step (f := fun _ => some (f, q.map cloneT)) (fun k => ?_) (Ev.now _)
      rw [term_Clone.l0, if_neg (by omega), List.take_of_length_le (by omega)]
    | succ m ihm =>
      intro i hi hle
      have hlt : i < q.length := by omega
      have hm := hql _ (List.getElem_mem hlt)
      have he := ih q[i] hm (oks_mem hks _ hm)
      refine Ev.step (f := fun k => (term_Clone.f k q[i].f0 q[i].f1).bind fun t => if ((q.take i).map cloneT).length < 4398046511104 then term_Clone.l0 k q (q.length : Int) ((i + 1 : Nat) : Int) f ((q.take i).map cloneT ++ [(⟨t.1, t.2⟩ : S30)]) else none) (fun k => ?_) (Ev.bind he ?_)
      · rw [term_Clone.l0, if_pos (by omega), if_pos (by omega), if_pos (by omega), rd30_at q i hlt, show wrap64 ((i : Int) + 1) = ((i + 1 : Nat) : Int) from by rw [w64 _ (by omega)]; omega]
      · simp only [List.length_map, List.length_take]
        simp only [if_pos (show min i q.length < 4398046511104 by omega)]
        have := ihm (i + 1) (by omega) (by omega)
        rw [List.take_succ_eq_append_getElem hlt, List.map_append] at this
        simp only [S30.eta]
        exact this
  by_cases hf : f < 0
  · refine Ev.step (f := fun k => term_Clone.l0 k [] (([] : List S30).length : Int) 0 f []) (fun k => ?_) ?_
    · rw [term_Clone.f]; simp [term_parts.f, hf]
    · have := hloop [] (by simp) (by simp) 0 0 rfl (by simp)
      simpa [cloneT, hf] using this
  · refine Ev.step (f := fun k => term_Clone.l0 k l (l.length : Int) 0 f []) (fun k => ?_) ?_
    · rw [term_Clone.f]; simp [term_parts.f, hf]
    · have := hloop l hl (fun x hx => hx) l.length 0 rfl (by omega)
      simpa [cloneT, hf, cloneTs_eq] using this
theorem Same_of (x y : S30) : term_Same.f x.f0 x.f1 y.f0 y.f1 = some (cmpT x y == 0) := by
  simp only [term_Same.f, term_Compare.f, S30.eta, Option.bind_some]
theorem Cmp_of (x y : S30) : term_Compare.f x.f0 x.f1 y.f0 y.f1 = some (cmpT x y) := by
  simp only [term_Compare.f, S30.eta]
end Go.Proofs.Ytpfddihcikiofaa.P
end
section
namespace Go.Proofs.Ytpfddihcikiofaa.P
open Go.RowKit Go.Proofs.YtpfddihcikiofaaW.PrintWords Go.Proofs.YtpfddihcikiofaaW.PrintLast Go.Proofs.YtpfddihcikiofaaW.PrintMore
set_option linter.unusedVariables false
set_option linter.unusedSimpArgs false
attribute [local go_sem] max2_int min2_int max_two min_two
set_option maxHeartbeats 4000000 in
set_option maxRecDepth 100000 in
theorem TermOrder_r6 {id : Nat} {a : Act} {w : World} {Q : Exit → Act → World → Prop} {ga gb gc : Nat} {xf xl yf yl zf zl : Value} {p q r : Int}
    (hr : regionOk #[{ dst := some 28, op := Op.load 30 (Operand.tmp 7), type := 30, pos := "law.go:179", after := #[], guard := none }, { dst := some 29, op := Op.load 30 (Operand.tmp 8), type := 30, pos := "law.go:179", after := #[], guard := none }, { dst := some 30, op := Op.call { callee := Callee.value (Operand.func 36), args := #[Operand.tmp 28, Operand.tmp 29], argTypes := #[30, 30] }, type := 3, pos := "law.go:179", after := #[{ on := 0, ground := Ground.data }, { on := 1, ground := Ground.data }], guard := none }, { dst := some 31, op := Op.load 30 (Operand.tmp 8), type := 30, pos := "law.go:179", after := #[], guard := none }, { dst := some 32, op := Op.load 30 (Operand.tmp 9), type := 30, pos := "law.go:179", after := #[], guard := none }, { dst := some 33, op := Op.call { callee := Callee.value (Operand.func 36), args := #[Operand.tmp 31, Operand.tmp 32], argTypes := #[30, 30] }, type := 3, pos := "law.go:179", after := #[{ on := 3, ground := Ground.data }, { on := 4, ground := Ground.data }, { on := 2, ground := Ground.chain }], guard := none }, { dst := some 34, op := Op.load 30 (Operand.tmp 7), type := 30, pos := "law.go:179", after := #[], guard := none }, { dst := some 35, op := Op.load 30 (Operand.tmp 9), type := 30, pos := "law.go:179", after := #[], guard := none }, { dst := some 36, op := Op.call { callee := Callee.value (Operand.func 36), args := #[Operand.tmp 34, Operand.tmp 35], argTypes := #[30, 30] }, type := 3, pos := "law.go:179", after := #[{ on := 6, ground := Ground.data }, { on := 7, ground := Ground.data }, { on := 5, ground := Ground.chain }], guard := none }, { dst := some 10, op := Op.assign (Operand.tmp 30), type := 3, pos := "law.go:179", after := #[{ on := 2, ground := Ground.data }, { on := 8, ground := Ground.chain }, { on := 0, ground := Ground.phase }, { on := 1, ground := Ground.phase }, { on := 2, ground := Ground.phase }, { on := 3, ground := Ground.textOnly Departure.lateStores }, { on := 4, ground := Ground.textOnly Departure.lateStores }, { on := 5, ground := Ground.textOnly Departure.lateStoresUnsure }, { on := 6, ground := Ground.textOnly Departure.lateStores }, { on := 7, ground := Ground.textOnly Departure.lateStores }, { on := 8, ground := Ground.textOnly Departure.lateStoresUnsure }], guard := none }, { dst := some 11, op := Op.assign (Operand.tmp 33), type := 3, pos := "law.go:179", after := #[{ on := 5, ground := Ground.data }, { on := 9, ground := Ground.chain }, { on := 0, ground := Ground.phase }, { on := 1, ground := Ground.phase }, { on := 2, ground := Ground.phase }, { on := 3, ground := Ground.phase }, { on := 4, ground := Ground.phase }, { on := 5, ground := Ground.phase }, { on := 6, ground := Ground.textOnly Departure.lateStores }, { on := 7, ground := Ground.textOnly Departure.lateStores }, { on := 8, ground := Ground.textOnly Departure.lateStoresUnsure }, { on := 9, ground := Ground.phase }], guard := none }, { dst := some 12, op := Op.assign (Operand.tmp 36), type := 3, pos := "law.go:179", after := #[{ on := 8, ground := Ground.data }, { on := 10, ground := Ground.chain }, { on := 0, ground := Ground.phase }, { on := 1, ground := Ground.phase }, { on := 2, ground := Ground.phase }, { on := 3, ground := Ground.phase }, { on := 4, ground := Ground.phase }, { on := 5, ground := Ground.phase }, { on := 6, ground := Ground.phase }, { on := 7, ground := Ground.phase }, { on := 8, ground := Ground.phase }, { on := 9, ground := Ground.phase }, { on := 10, ground := Ground.phase }], guard := none }] a.tmps.size = true)
    (hT7 : a.tmps.getD 7 undef = .pointer (some ⟨ga, 0, none⟩)) (hX7 : w.heap[ga]? = some (.cells #[xf, xl] 30 (0, 0)))
    (hT8 : a.tmps.getD 8 undef = .pointer (some ⟨gb, 0, none⟩)) (hX8 : w.heap[gb]? = some (.cells #[yf, yl] 30 (0, 0)))
    (hT9 : a.tmps.getD 9 undef = .pointer (some ⟨gc, 0, none⟩)) (hX9 : w.heap[gc]? = some (.cells #[zf, zl] 30 (0, 0)))
    (hF2 : ∀ w1, Below w.heap.size w w1 → Calls Try.prog 36 #[.agg #[xf, xl], .agg #[yf, yl]] w1 fun e w2 => e = .returned (.int .i64 p) ∧ Below w1.heap.size w1 w2)
    (hF5 : ∀ w1, Below w.heap.size w w1 → Calls Try.prog 36 #[.agg #[yf, yl], .agg #[zf, zl]] w1 fun e w2 => e = .returned (.int .i64 q) ∧ Below w1.heap.size w1 w2)
    (hF8 : ∀ w1, Below w.heap.size w w1 → Calls Try.prog 36 #[.agg #[xf, xl], .agg #[zf, zl]] w1 fun e w2 => e = .returned (.int .i64 r) ∧ Below w1.heap.size w1 w2)
    (hK : ∀ v w', Below w.heap.size w w' → v 9 = .int .i64 p → v 10 = .int .i64 q → v 11 = .int .i64 r → Q .normal { tmps := layL [some 28, some 29, some 30, some 31, some 32, some 33, some 34, some 35, some 36, some 10, some 11, some 12] 0 v a.tmps, defers := a.defers } w') :
    (Code.region id #[{ dst := some 28, op := Op.load 30 (Operand.tmp 7), type := 30, pos := "law.go:179", after := #[], guard := none }, { dst := some 29, op := Op.load 30 (Operand.tmp 8), type := 30, pos := "law.go:179", after := #[], guard := none }, { dst := some 30, op := Op.call { callee := Callee.value (Operand.func 36), args := #[Operand.tmp 28, Operand.tmp 29], argTypes := #[30, 30] }, type := 3, pos := "law.go:179", after := #[{ on := 0, ground := Ground.data }, { on := 1, ground := Ground.data }], guard := none }, { dst := some 31, op := Op.load 30 (Operand.tmp 8), type := 30, pos := "law.go:179", after := #[], guard := none }, { dst := some 32, op := Op.load 30 (Operand.tmp 9), type := 30, pos := "law.go:179", after := #[], guard := none }, { dst := some 33, op := Op.call { callee := Callee.value (Operand.func 36), args := #[Operand.tmp 31, Operand.tmp 32], argTypes := #[30, 30] }, type := 3, pos := "law.go:179", after := #[{ on := 3, ground := Ground.data }, { on := 4, ground := Ground.data }, { on := 2, ground := Ground.chain }], guard := none }, { dst := some 34, op := Op.load 30 (Operand.tmp 7), type := 30, pos := "law.go:179", after := #[], guard := none }, { dst := some 35, op := Op.load 30 (Operand.tmp 9), type := 30, pos := "law.go:179", after := #[], guard := none }, { dst := some 36, op := Op.call { callee := Callee.value (Operand.func 36), args := #[Operand.tmp 34, Operand.tmp 35], argTypes := #[30, 30] }, type := 3, pos := "law.go:179", after := #[{ on := 6, ground := Ground.data }, { on := 7, ground := Ground.data }, { on := 5, ground := Ground.chain }], guard := none }, { dst := some 10, op := Op.assign (Operand.tmp 30), type := 3, pos := "law.go:179", after := #[{ on := 2, ground := Ground.data }, { on := 8, ground := Ground.chain }, { on := 0, ground := Ground.phase }, { on := 1, ground := Ground.phase }, { on := 2, ground := Ground.phase }, { on := 3, ground := Ground.textOnly Departure.lateStores }, { on := 4, ground := Ground.textOnly Departure.lateStores }, { on := 5, ground := Ground.textOnly Departure.lateStoresUnsure }, { on := 6, ground := Ground.textOnly Departure.lateStores }, { on := 7, ground := Ground.textOnly Departure.lateStores }, { on := 8, ground := Ground.textOnly Departure.lateStoresUnsure }], guard := none }, { dst := some 11, op := Op.assign (Operand.tmp 33), type := 3, pos := "law.go:179", after := #[{ on := 5, ground := Ground.data }, { on := 9, ground := Ground.chain }, { on := 0, ground := Ground.phase }, { on := 1, ground := Ground.phase }, { on := 2, ground := Ground.phase }, { on := 3, ground := Ground.phase }, { on := 4, ground := Ground.phase }, { on := 5, ground := Ground.phase }, { on := 6, ground := Ground.textOnly Departure.lateStores }, { on := 7, ground := Ground.textOnly Departure.lateStores }, { on := 8, ground := Ground.textOnly Departure.lateStoresUnsure }, { on := 9, ground := Ground.phase }], guard := none }, { dst := some 12, op := Op.assign (Operand.tmp 36), type := 3, pos := "law.go:179", after := #[{ on := 8, ground := Ground.data }, { on := 10, ground := Ground.chain }, { on := 0, ground := Ground.phase }, { on := 1, ground := Ground.phase }, { on := 2, ground := Ground.phase }, { on := 3, ground := Ground.phase }, { on := 4, ground := Ground.phase }, { on := 5, ground := Ground.phase }, { on := 6, ground := Ground.phase }, { on := 7, ground := Ground.phase }, { on := 8, ground := Ground.phase }, { on := 9, ground := Ground.phase }, { on := 10, ground := Ground.phase }], guard := none }] true).wp Try.prog Q a w := by
  have hmx : Try.prog.follows .mixedOrders = true := by kernel_rfl
  refine region_detR 12 hmx hr (by kernel_rfl) ?_
  refine DetR.is (o := { dst := some 28, op := Op.load 30 (Operand.tmp 7), type := 30, pos := "law.go:179", after := #[], guard := none }) (u := ?ux1) rfl (by decide) (fun T w' hb hd hB K hK => ?sx1) ?rx1
  case sx1 =>
    have e7 := (hB 7 (by kernel_rfl)).trans hT7
    have q7_0 : w'.cell? ⟨ga, 0, none⟩ = some (xf) := (blk_cell (blk_below hX7 hb) 0).trans rfl
    have q7_1 : w'.cell? ⟨ga, 1, none⟩ = some (xl) := (blk_cell (blk_below hX7 hb) 1).trans rfl
    rw [if_pos (wanted_none _ rfl)]
    clear hd hB
    go_simp
    exact hK _ (Below.refl _ _)
  refine DetR.is (o := { dst := some 29, op := Op.load 30 (Operand.tmp 8), type := 30, pos := "law.go:179", after := #[], guard := none }) (u := ?ux2) rfl (by decide) (fun T w' hb hd hB K hK => ?sx2) ?rx2
  case sx2 =>
    have e8 := (hB 8 (by kernel_rfl)).trans hT8
    have q8_0 : w'.cell? ⟨gb, 0, none⟩ = some (yf) := (blk_cell (blk_below hX8 hb) 0).trans rfl
    have q8_1 : w'.cell? ⟨gb, 1, none⟩ = some (yl) := (blk_cell (blk_below hX8 hb) 1).trans rfl
    rw [if_pos (wanted_none _ rfl)]
    clear hd hB
    go_simp
    exact hK _ (Below.refl _ _)
  refine DetR.is (o := { dst := some 30, op := Op.call { callee := Callee.value (Operand.func 36), args := #[Operand.tmp 28, Operand.tmp 29], argTypes := #[30, 30] }, type := 3, pos := "law.go:179", after := #[{ on := 0, ground := Ground.data }, { on := 1, ground := Ground.data }], guard := none }) (u := ?ux3) rfl (by decide) (fun T w' hb hd hB K hK => ?sx3) ?rx3
  case sx3 =>
    have e28 := hd 0 28 _ (by decide) (by kernel_rfl) rfl rfl
    replace e28 : T.getD 28 undef = _ := e28
    have e29 := hd 1 29 _ (by decide) (by kernel_rfl) rfl rfl
    replace e29 : T.getD 29 undef = _ := e29
    rw [if_pos (wanted_none _ rfl)]
    have hcl := hF2 w' hb
    clear hd hB
    go_simp
    go_at_call 36
    refine hcl.mono ?_
    rintro e w2 ⟨rfl, h2⟩
    exact hK _ h2
  refine DetR.is (o := { dst := some 31, op := Op.load 30 (Operand.tmp 8), type := 30, pos := "law.go:179", after := #[], guard := none }) (u := ?ux4) rfl (by decide) (fun T w' hb hd hB K hK => ?sx4) ?rx4
  case sx4 =>
    have e8 := (hB 8 (by kernel_rfl)).trans hT8
    have q8_0 : w'.cell? ⟨gb, 0, none⟩ = some (yf) := (blk_cell (blk_below hX8 hb) 0).trans rfl
    have q8_1 : w'.cell? ⟨gb, 1, none⟩ = some (yl) := (blk_cell (blk_below hX8 hb) 1).trans rfl
    rw [if_pos (wanted_none _ rfl)]
    clear hd hB
    go_simp
    exact hK _ (Below.refl _ _)
  refine DetR.is (o := { dst := some 32, op := Op.load 30 (Operand.tmp 9), type := 30, pos := "law.go:179", after := #[], guard := none }) (u := ?ux5) rfl (by decide) (fun T w' hb hd hB K hK => ?sx5) ?rx5
  case sx5 =>
    have e9 := (hB 9 (by kernel_rfl)).trans hT9
    have q9_0 : w'.cell? ⟨gc, 0, none⟩ = some (zf) := (blk_cell (blk_below hX9 hb) 0).trans rfl
    have q9_1 : w'.cell? ⟨gc, 1, none⟩ = some (zl) := (blk_cell (blk_below hX9 hb) 1).trans rfl
    rw [if_pos (wanted_none _ rfl)]
    clear hd hB
    go_simp
    exact hK _ (Below.refl _ _)
  refine DetR.is (o := { dst := some 33, op := Op.call { callee := Callee.value (Operand.func 36), args := #[Operand.tmp 31, Operand.tmp 32], argTypes := #[30, 30] }, type := 3, pos := "law.go:179", after := #[{ on := 3, ground := Ground.data }, { on := 4, ground := Ground.data }, { on := 2, ground := Ground.chain }], guard := none }) (u := ?ux6) rfl (by decide) (fun T w' hb hd hB K hK => ?sx6) ?rx6
  case sx6 =>
    have e31 := hd 3 31 _ (by decide) (by kernel_rfl) rfl rfl
    replace e31 : T.getD 31 undef = _ := e31
    have e32 := hd 4 32 _ (by decide) (by kernel_rfl) rfl rfl
    replace e32 : T.getD 32 undef = _ := e32
    rw [if_pos (wanted_none _ rfl)]
    have hcl := hF5 w' hb
    clear hd hB
    go_simp
    go_at_call 36
    refine hcl.mono ?_
    rintro e w2 ⟨rfl, h2⟩
    exact hK _ h2
  refine DetR.is (o := { dst := some 34, op := Op.load 30 (Operand.tmp 7), type := 30, pos := "law.go:179", after := #[], guard := none }) (u := ?ux7) rfl (by decide) (fun T w' hb hd hB K hK => ?sx7) ?rx7
  case sx7 =>
    have e7 := (hB 7 (by kernel_rfl)).trans hT7
    have q7_0 : w'.cell? ⟨ga, 0, none⟩ = some (xf) := (blk_cell (blk_below hX7 hb) 0).trans rfl
    have q7_1 : w'.cell? ⟨ga, 1, none⟩ = some (xl) := (blk_cell (blk_below hX7 hb) 1).trans rfl
    rw [if_pos (wanted_none _ rfl)]
    clear hd hB
    go_simp
    exact hK _ (Below.refl _ _)
  refine DetR.is (o := { dst := some 35, op := Op.load 30 (Operand.tmp 9), type := 30, pos := "law.go:179", after := #[], guard := none }) (u := ?ux8) rfl (by decide) (fun T w' hb hd hB K hK => ?sx8) ?rx8
  case sx8 =>
    have e9 := (hB 9 (by kernel_rfl)).trans hT9
    have q9_0 : w'.cell? ⟨gc, 0, none⟩ = some (zf) := (blk_cell (blk_below hX9 hb) 0).trans rfl
    have q9_1 : w'.cell? ⟨gc, 1, none⟩ = some (zl) := (blk_cell (blk_below hX9 hb) 1).trans rfl
    rw [if_pos (wanted_none _ rfl)]
    clear hd hB
    go_simp
    exact hK _ (Below.refl _ _)
  refine DetR.is (o := { dst := some 36, op := Op.call { callee := Callee.value (Operand.func 36), args := #[Operand.tmp 34, Operand.tmp 35], argTypes := #[30, 30] }, type := 3, pos := "law.go:179", after := #[{ on := 6, ground := Ground.data }, { on := 7, ground := Ground.data }, { on := 5, ground := Ground.chain }], guard := none }) (u := ?ux9) rfl (by decide) (fun T w' hb hd hB K hK => ?sx9) ?rx9
  case sx9 =>
    have e34 := hd 6 34 _ (by decide) (by kernel_rfl) rfl rfl
    replace e34 : T.getD 34 undef = _ := e34
    have e35 := hd 7 35 _ (by decide) (by kernel_rfl) rfl rfl
    replace e35 : T.getD 35 undef = _ := e35
    rw [if_pos (wanted_none _ rfl)]
    have hcl := hF8 w' hb
    clear hd hB
    go_simp
    go_at_call 36
    refine hcl.mono ?_
    rintro e w2 ⟨rfl, h2⟩
    exact hK _ h2
  refine DetR.is (o := { dst := some 10, op := Op.assign (Operand.tmp 30), type := 3, pos := "law.go:179", after := #[{ on := 2, ground := Ground.data }, { on := 8, ground := Ground.chain }, { on := 0, ground := Ground.phase }, { on := 1, ground := Ground.phase }, { on := 2, ground := Ground.phase }, { on := 3, ground := Ground.textOnly Departure.lateStores }, { on := 4, ground := Ground.textOnly Departure.lateStores }, { on := 5, ground := Ground.textOnly Departure.lateStoresUnsure }, { on := 6, ground := Ground.textOnly Departure.lateStores }, { on := 7, ground := Ground.textOnly Departure.lateStores }, { on := 8, ground := Ground.textOnly Departure.lateStoresUnsure }], guard := none }) (u := ?ux10) rfl (by decide) (fun T w' hb hd hB K hK => ?sx10) ?rx10
  case sx10 =>
    have e30 := hd 2 30 _ (by decide) (by kernel_rfl) rfl rfl
    replace e30 : T.getD 30 undef = _ := e30
    rw [if_pos (wanted_none _ rfl)]
    clear hd hB
    go_simp
    exact hK _ (Below.refl _ _)
  refine DetR.is (o := { dst := some 11, op := Op.assign (Operand.tmp 33), type := 3, pos := "law.go:179", after := #[{ on := 5, ground := Ground.data }, { on := 9, ground := Ground.chain }, { on := 0, ground := Ground.phase }, { on := 1, ground := Ground.phase }, { on := 2, ground := Ground.phase }, { on := 3, ground := Ground.phase }, { on := 4, ground := Ground.phase }, { on := 5, ground := Ground.phase }, { on := 6, ground := Ground.textOnly Departure.lateStores }, { on := 7, ground := Ground.textOnly Departure.lateStores }, { on := 8, ground := Ground.textOnly Departure.lateStoresUnsure }, { on := 9, ground := Ground.phase }], guard := none }) (u := ?ux11) rfl (by decide) (fun T w' hb hd hB K hK => ?sx11) ?rx11
  case sx11 =>
    have e33 := hd 5 33 _ (by decide) (by kernel_rfl) rfl rfl
    replace e33 : T.getD 33 undef = _ := e33
    rw [if_pos (wanted_none _ rfl)]
    clear hd hB
    go_simp
    exact hK _ (Below.refl _ _)
  refine DetR.is (o := { dst := some 12, op := Op.assign (Operand.tmp 36), type := 3, pos := "law.go:179", after := #[{ on := 8, ground := Ground.data }, { on := 10, ground := Ground.chain }, { on := 0, ground := Ground.phase }, { on := 1, ground := Ground.phase }, { on := 2, ground := Ground.phase }, { on := 3, ground := Ground.phase }, { on := 4, ground := Ground.phase }, { on := 5, ground := Ground.phase }, { on := 6, ground := Ground.phase }, { on := 7, ground := Ground.phase }, { on := 8, ground := Ground.phase }, { on := 9, ground := Ground.phase }, { on := 10, ground := Ground.phase }], guard := none }) (u := ?ux12) rfl (by decide) (fun T w' hb hd hB K hK => ?sx12) ?rx12
  case sx12 =>
    have e36 := hd 8 36 _ (by decide) (by kernel_rfl) rfl rfl
    replace e36 : T.getD 36 undef = _ := e36
    rw [if_pos (wanted_none _ rfl)]
    clear hd hB
    go_simp
    exact hK _ (Below.refl _ _)
  refine DetR.done [some 28, some 29, some 30, some 31, some 32, some 33, some 34, some 35, some 36, some 10, some 11, some 12] (by kernel_rfl) rfl (by kernel_rfl) ?_
  intro v w' hb hv
  exact hK v w' hb (hv 9 _ (by decide) rfl) (hv 10 _ (by decide) rfl) (hv 11 _ (by decide) rfl)
set_option maxHeartbeats 4000000 in
set_option maxRecDepth 100000 in
theorem TermOrder_r7 {id : Nat} {a : Act} {w : World} {Q : Exit → Act → World → Prop} {ga gb : Nat} {xf xl yf yl : Value} {p pn cf : Int} {cl : List S30}
    (hr : regionOk #[{ dst := some 37, op := Op.load 30 (Operand.tmp 8), type := 30, pos := "law.go:180", after := #[], guard := none }, { dst := some 38, op := Op.load 30 (Operand.tmp 7), type := 30, pos := "law.go:180", after := #[], guard := none }, { dst := some 39, op := Op.call { callee := Callee.value (Operand.func 36), args := #[Operand.tmp 37, Operand.tmp 38], argTypes := #[30, 30] }, type := 3, pos := "law.go:180", after := #[{ on := 0, ground := Ground.data }, { on := 1, ground := Ground.data }], guard := none }, { dst := some 40, op := Op.move (Operand.tmp 10), type := 3, pos := "law.go:180", after := #[], guard := none }, { dst := some 41, op := Op.unOp UnOp.neg 3 (Operand.tmp 40), type := 3, pos := "law.go:180", after := #[{ on := 3, ground := Ground.data }], guard := none }, { dst := some 42, op := Op.binOp BinOp.neq 3 (Operand.tmp 39) (Operand.tmp 41) 3, type := 4, pos := "law.go:180", after := #[{ on := 2, ground := Ground.data }, { on := 4, ground := Ground.data }], guard := none }, { dst := some 43, op := Op.move (Operand.tmp 42), type := 4, pos := "law.go:180", after := #[{ on := 5, ground := Ground.data }, { on := 2, ground := Ground.chain }], guard := none }, { dst := some 44, op := Op.load 30 (Operand.tmp 7), type := 30, pos := "law.go:180", after := #[{ on := 6, ground := Ground.guard }], guard := some (6, false) }, { dst := some 45, op := Op.load 30 (Operand.tmp 7), type := 30, pos := "law.go:180", after := #[{ on := 6, ground := Ground.guard }], guard := some (6, false) }, { dst := some 46, op := Op.call { callee := Callee.value (Operand.func 36), args := #[Operand.tmp 44, Operand.tmp 45], argTypes := #[30, 30] }, type := 3, pos := "law.go:180", after := #[{ on := 7, ground := Ground.data }, { on := 8, ground := Ground.data }, { on := 6, ground := Ground.chain }, { on := 6, ground := Ground.guard }], guard := some (6, false) }, { dst := some 47, op := Op.binOp BinOp.neq 3 (Operand.tmp 46) (Operand.const (Value.int IntKind.i64 0)) 3, type := 4, pos := "law.go:180", after := #[{ on := 9, ground := Ground.data }, { on := 6, ground := Ground.guard }], guard := some (6, false) }, { dst := some 48, op := Op.pick (Operand.tmp 43) (Operand.const (Value.bool true)) (Operand.tmp 47), type := 4, pos := "law.go:180", after := #[{ on := 6, ground := Ground.data }, { on := 10, ground := Ground.data }], guard := none }, { dst := some 49, op := Op.move (Operand.tmp 48), type := 4, pos := "law.go:180", after := #[{ on := 11, ground := Ground.data }, { on := 9, ground := Ground.chain }], guard := none }, { dst := some 50, op := Op.load 30 (Operand.tmp 7), type := 30, pos := "law.go:180", after := #[{ on := 12, ground := Ground.guard }], guard := some (12, false) }, { dst := some 51, op := Op.call { callee := Callee.value (Operand.func 38), args := #[Operand.tmp 50], argTypes := #[30] }, type := 30, pos := "law.go:180", after := #[{ on := 13, ground := Ground.data }, { on := 12, ground := Ground.chain }, { on := 12, ground := Ground.guard }], guard := some (12, false) }, { dst := some 52, op := Op.load 30 (Operand.tmp 7), type := 30, pos := "law.go:180", after := #[{ on := 12, ground := Ground.guard }], guard := some (12, false) }, { dst := some 53, op := Op.call { callee := Callee.value (Operand.func 37), args := #[Operand.tmp 51, Operand.tmp 52], argTypes := #[30, 30] }, type := 4, pos := "law.go:180", after := #[{ on := 14, ground := Ground.data }, { on := 15, ground := Ground.data }, { on := 14, ground := Ground.chain }, { on := 12, ground := Ground.guard }], guard := some (12, false) }, { dst := some 54, op := Op.unOp UnOp.not 4 (Operand.tmp 53), type := 4, pos := "law.go:180", after := #[{ on := 16, ground := Ground.data }, { on := 12, ground := Ground.guard }], guard := some (12, false) }, { dst := some 55, op := Op.pick (Operand.tmp 49) (Operand.const (Value.bool true)) (Operand.tmp 54), type := 4, pos := "law.go:180", after := #[{ on := 12, ground := Ground.data }, { on := 17, ground := Ground.data }], guard := none }] a.tmps.size = true)
    (hT10 : a.tmps.getD 10 undef = .int .i64 p)
    (hT7 : a.tmps.getD 7 undef = .pointer (some ⟨ga, 0, none⟩)) (hX7 : w.heap[ga]? = some (.cells #[xf, xl] 30 (0, 0)))
    (hT8 : a.tmps.getD 8 undef = .pointer (some ⟨gb, 0, none⟩)) (hX8 : w.heap[gb]? = some (.cells #[yf, yl] 30 (0, 0)))
    (hF2 : ∀ w1, Below w.heap.size w w1 → Calls Try.prog 36 #[.agg #[yf, yl], .agg #[xf, xl]] w1 fun e w2 => e = .returned (.int .i64 pn) ∧ Below w1.heap.size w1 w2)
    (hF9 : ∀ w1, Below w.heap.size w w1 → Calls Try.prog 36 #[.agg #[xf, xl], .agg #[xf, xl]] w1 fun e w2 => e = .returned (.int .i64 0) ∧ Below w1.heap.size w1 w2)
    (hF14 : ∀ w1, Below w.heap.size w w1 → Calls Try.prog 38 #[.agg #[xf, xl]] w1 fun e w2 => ∃ u, e = .returned u ∧ TermTold k30 cf cl u w2 ∧ Below w1.heap.size w1 w2)
    (hpn : pn = -p) (hpr : p = -1 ∨ p = 0 ∨ p = 1) (hS : ∀ (w1 : World) (A : Option Addr) (c : Nat), Below w.heap.size w w1 → cl.length ≤ c → k30.C w1 A cl.length cl → Calls Try.prog 37 #[.agg #[.int .i64 cf, .slice A cl.length c], .agg #[xf, xl]] w1 fun e w2 => e = .returned (.bool true) ∧ Below w1.heap.size w1 w2)
    (hK : ∀ v w', Below w.heap.size w w' → v 18 = .bool false → Q .normal { tmps := layL [some 37, some 38, some 39, some 40, some 41, some 42, some 43, some 44, some 45, some 46, some 47, some 48, some 49, some 50, some 51, some 52, some 53, some 54, some 55] 0 v a.tmps, defers := a.defers } w') :
    (Code.region id #[{ dst := some 37, op := Op.load 30 (Operand.tmp 8), type := 30, pos := "law.go:180", after := #[], guard := none }, { dst := some 38, op := Op.load 30 (Operand.tmp 7), type := 30, pos := "law.go:180", after := #[], guard := none }, { dst := some 39, op := Op.call { callee := Callee.value (Operand.func 36), args := #[Operand.tmp 37, Operand.tmp 38], argTypes := #[30, 30] }, type := 3, pos := "law.go:180", after := #[{ on := 0, ground := Ground.data }, { on := 1, ground := Ground.data }], guard := none }, { dst := some 40, op := Op.move (Operand.tmp 10), type := 3, pos := "law.go:180", after := #[], guard := none }, { dst := some 41, op := Op.unOp UnOp.neg 3 (Operand.tmp 40), type := 3, pos := "law.go:180", after := #[{ on := 3, ground := Ground.data }], guard := none }, { dst := some 42, op := Op.binOp BinOp.neq 3 (Operand.tmp 39) (Operand.tmp 41) 3, type := 4, pos := "law.go:180", after := #[{ on := 2, ground := Ground.data }, { on := 4, ground := Ground.data }], guard := none }, { dst := some 43, op := Op.move (Operand.tmp 42), type := 4, pos := "law.go:180", after := #[{ on := 5, ground := Ground.data }, { on := 2, ground := Ground.chain }], guard := none }, { dst := some 44, op := Op.load 30 (Operand.tmp 7), type := 30, pos := "law.go:180", after := #[{ on := 6, ground := Ground.guard }], guard := some (6, false) }, { dst := some 45, op := Op.load 30 (Operand.tmp 7), type := 30, pos := "law.go:180", after := #[{ on := 6, ground := Ground.guard }], guard := some (6, false) }, { dst := some 46, op := Op.call { callee := Callee.value (Operand.func 36), args := #[Operand.tmp 44, Operand.tmp 45], argTypes := #[30, 30] }, type := 3, pos := "law.go:180", after := #[{ on := 7, ground := Ground.data }, { on := 8, ground := Ground.data }, { on := 6, ground := Ground.chain }, { on := 6, ground := Ground.guard }], guard := some (6, false) }, { dst := some 47, op := Op.binOp BinOp.neq 3 (Operand.tmp 46) (Operand.const (Value.int IntKind.i64 0)) 3, type := 4, pos := "law.go:180", after := #[{ on := 9, ground := Ground.data }, { on := 6, ground := Ground.guard }], guard := some (6, false) }, { dst := some 48, op := Op.pick (Operand.tmp 43) (Operand.const (Value.bool true)) (Operand.tmp 47), type := 4, pos := "law.go:180", after := #[{ on := 6, ground := Ground.data }, { on := 10, ground := Ground.data }], guard := none }, { dst := some 49, op := Op.move (Operand.tmp 48), type := 4, pos := "law.go:180", after := #[{ on := 11, ground := Ground.data }, { on := 9, ground := Ground.chain }], guard := none }, { dst := some 50, op := Op.load 30 (Operand.tmp 7), type := 30, pos := "law.go:180", after := #[{ on := 12, ground := Ground.guard }], guard := some (12, false) }, { dst := some 51, op := Op.call { callee := Callee.value (Operand.func 38), args := #[Operand.tmp 50], argTypes := #[30] }, type := 30, pos := "law.go:180", after := #[{ on := 13, ground := Ground.data }, { on := 12, ground := Ground.chain }, { on := 12, ground := Ground.guard }], guard := some (12, false) }, { dst := some 52, op := Op.load 30 (Operand.tmp 7), type := 30, pos := "law.go:180", after := #[{ on := 12, ground := Ground.guard }], guard := some (12, false) }, { dst := some 53, op := Op.call { callee := Callee.value (Operand.func 37), args := #[Operand.tmp 51, Operand.tmp 52], argTypes := #[30, 30] }, type := 4, pos := "law.go:180", after := #[{ on := 14, ground := Ground.data }, { on := 15, ground := Ground.data }, { on := 14, ground := Ground.chain }, { on := 12, ground := Ground.guard }], guard := some (12, false) }, { dst := some 54, op := Op.unOp UnOp.not 4 (Operand.tmp 53), type := 4, pos := "law.go:180", after := #[{ on := 16, ground := Ground.data }, { on := 12, ground := Ground.guard }], guard := some (12, false) }, { dst := some 55, op := Op.pick (Operand.tmp 49) (Operand.const (Value.bool true)) (Operand.tmp 54), type := 4, pos := "law.go:180", after := #[{ on := 12, ground := Ground.data }, { on := 17, ground := Ground.data }], guard := none }] true).wp Try.prog Q a w := by
  have hmx : Try.prog.follows .mixedOrders = true := by kernel_rfl
  refine region_detR 19 hmx hr (by kernel_rfl) ?_
  refine DetR.is (o := { dst := some 37, op := Op.load 30 (Operand.tmp 8), type := 30, pos := "law.go:180", after := #[], guard := none }) (u := ?ux13) rfl (by decide) (fun T w' hb hd hB K hK => ?sx13) ?rx13
  case sx13 =>
    have e8 := (hB 8 (by kernel_rfl)).trans hT8
    have q8_0 : w'.cell? ⟨gb, 0, none⟩ = some (yf) := (blk_cell (blk_below hX8 hb) 0).trans rfl
    have q8_1 : w'.cell? ⟨gb, 1, none⟩ = some (yl) := (blk_cell (blk_below hX8 hb) 1).trans rfl
    rw [if_pos (wanted_none _ rfl)]
    clear hd hB
    go_simp
    exact hK _ (Below.refl _ _)
  refine DetR.is (o := { dst := some 38, op := Op.load 30 (Operand.tmp 7), type := 30, pos := "law.go:180", after := #[], guard := none }) (u := ?ux14) rfl (by decide) (fun T w' hb hd hB K hK => ?sx14) ?rx14
  case sx14 =>
    have e7 := (hB 7 (by kernel_rfl)).trans hT7
    have q7_0 : w'.cell? ⟨ga, 0, none⟩ = some (xf) := (blk_cell (blk_below hX7 hb) 0).trans rfl
    have q7_1 : w'.cell? ⟨ga, 1, none⟩ = some (xl) := (blk_cell (blk_below hX7 hb) 1).trans rfl
    rw [if_pos (wanted_none _ rfl)]
    clear hd hB
    go_simp
    exact hK _ (Below.refl _ _)
  refine DetR.is (o := { dst := some 39, op := Op.call { callee := Callee.value (Operand.func 36), args := #[Operand.tmp 37, Operand.tmp 38], argTypes := #[30, 30] }, type := 3, pos := "law.go:180", after := #[{ on := 0, ground := Ground.data }, { on := 1, ground := Ground.data }], guard := none }) (u := ?ux15) rfl (by decide) (fun T w' hb hd hB K hK => ?sx15) ?rx15
  case sx15 =>
    have e37 := hd 0 37 _ (by decide) (by kernel_rfl) rfl rfl
    replace e37 : T.getD 37 undef = _ := e37
    have e38 := hd 1 38 _ (by decide) (by kernel_rfl) rfl rfl
    replace e38 : T.getD 38 undef = _ := e38
    rw [if_pos (wanted_none _ rfl)]
    have hcl := hF2 w' hb
    clear hd hB
    go_simp
    go_at_call 36
    refine hcl.mono ?_
    rintro e w2 ⟨rfl, h2⟩
    exact hK _ h2
  refine DetR.is (o := { dst := some 40, op := Op.move (Operand.tmp 10), type := 3, pos := "law.go:180", after := #[], guard := none }) (u := ?ux16) rfl (by decide) (fun T w' hb hd hB K hK => ?sx16) ?rx16
  case sx16 =>
    have e10 := (hB 10 (by kernel_rfl)).trans hT10
    rw [if_pos (wanted_none _ rfl)]
    clear hd hB
    go_simp
    exact hK _ (Below.refl _ _)
  refine DetR.is (o := { dst := some 41, op := Op.unOp UnOp.neg 3 (Operand.tmp 40), type := 3, pos := "law.go:180", after := #[{ on := 3, ground := Ground.data }], guard := none }) (u := ?ux17) rfl (by decide) (fun T w' hb hd hB K hK => ?sx17) ?rx17
  case sx17 =>
    have e40 := hd 3 40 _ (by decide) (by kernel_rfl) rfl rfl
    replace e40 : T.getD 40 undef = _ := e40
    rw [if_pos (wanted_none _ rfl)]
    clear hd hB
    go_simp
    exact hK _ (Below.refl _ _)
  refine DetR.is (o := { dst := some 42, op := Op.binOp BinOp.neq 3 (Operand.tmp 39) (Operand.tmp 41) 3, type := 4, pos := "law.go:180", after := #[{ on := 2, ground := Ground.data }, { on := 4, ground := Ground.data }], guard := none }) (u := .bool false) rfl (by decide) (fun T w' hb hd hB K hK => ?sx18) ?rx18
  case sx18 =>
    have e39 := hd 2 39 _ (by decide) (by kernel_rfl) rfl rfl
    replace e39 : T.getD 39 undef = _ := e39
    have e41 := hd 4 41 _ (by decide) (by kernel_rfl) rfl rfl
    replace e41 : T.getD 41 undef = _ := e41
    rw [if_pos (wanted_none _ rfl)]
    clear hd hB
    go_simp
    have hq : (pn != IntKind.i64.wrap (-p)) = false := by rw [bne_eq_false_iff_eq, i64_w]; unfold wrap64; omega
    first | rw [hq] | (subst hpn; rw [hq])
    exact hK _ (Below.refl _ _)
  refine DetR.is (o := { dst := some 43, op := Op.move (Operand.tmp 42), type := 4, pos := "law.go:180", after := #[{ on := 5, ground := Ground.data }, { on := 2, ground := Ground.chain }], guard := none }) (u := ?ux19) rfl (by decide) (fun T w' hb hd hB K hK => ?sx19) ?rx19
  case sx19 =>
    have e42 := hd 5 42 _ (by decide) (by kernel_rfl) rfl rfl
    replace e42 : T.getD 42 undef = _ := e42
    rw [if_pos (wanted_none _ rfl)]
    clear hd hB
    go_simp
    exact hK _ (Below.refl _ _)
  refine DetR.is (o := { dst := some 44, op := Op.load 30 (Operand.tmp 7), type := 30, pos := "law.go:180", after := #[{ on := 6, ground := Ground.guard }], guard := some (6, false) }) (u := ?ux20) rfl (by decide) (fun T w' hb hd hB K hK => ?sx20) ?rx20
  case sx20 =>
    have e7 := (hB 7 (by kernel_rfl)).trans hT7
    have q7_0 : w'.cell? ⟨ga, 0, none⟩ = some (xf) := (blk_cell (blk_below hX7 hb) 0).trans rfl
    have q7_1 : w'.cell? ⟨ga, 1, none⟩ = some (xl) := (blk_cell (blk_below hX7 hb) 1).trans rfl
    have eg := hd 6 43 _ (by decide) (by kernel_rfl) rfl rfl
    replace eg : T.getD 43 undef = .bool false := eg
    rw [if_pos (wanted_yes 6 43 false rfl rfl eg)]
    clear eg
    clear hd hB
    go_simp
    exact hK _ (Below.refl _ _)
  refine DetR.is (o := { dst := some 45, op := Op.load 30 (Operand.tmp 7), type := 30, pos := "law.go:180", after := #[{ on := 6, ground := Ground.guard }], guard := some (6, false) }) (u := ?ux21) rfl (by decide) (fun T w' hb hd hB K hK => ?sx21) ?rx21
  case sx21 =>
    have e7 := (hB 7 (by kernel_rfl)).trans hT7
    have q7_0 : w'.cell? ⟨ga, 0, none⟩ = some (xf) := (blk_cell (blk_below hX7 hb) 0).trans rfl
    have q7_1 : w'.cell? ⟨ga, 1, none⟩ = some (xl) := (blk_cell (blk_below hX7 hb) 1).trans rfl
    have eg := hd 6 43 _ (by decide) (by kernel_rfl) rfl rfl
    replace eg : T.getD 43 undef = .bool false := eg
    rw [if_pos (wanted_yes 6 43 false rfl rfl eg)]
    clear eg
    clear hd hB
    go_simp
    exact hK _ (Below.refl _ _)
  refine DetR.is (o := { dst := some 46, op := Op.call { callee := Callee.value (Operand.func 36), args := #[Operand.tmp 44, Operand.tmp 45], argTypes := #[30, 30] }, type := 3, pos := "law.go:180", after := #[{ on := 7, ground := Ground.data }, { on := 8, ground := Ground.data }, { on := 6, ground := Ground.chain }, { on := 6, ground := Ground.guard }], guard := some (6, false) }) (u := ?ux22) rfl (by decide) (fun T w' hb hd hB K hK => ?sx22) ?rx22
  case sx22 =>
    have e44 := hd 7 44 _ (by decide) (by kernel_rfl) rfl rfl
    replace e44 : T.getD 44 undef = _ := e44
    have e45 := hd 8 45 _ (by decide) (by kernel_rfl) rfl rfl
    replace e45 : T.getD 45 undef = _ := e45
    have eg := hd 6 43 _ (by decide) (by kernel_rfl) rfl rfl
    replace eg : T.getD 43 undef = .bool false := eg
    rw [if_pos (wanted_yes 6 43 false rfl rfl eg)]
    clear eg
    have hcl := hF9 w' hb
    clear hd hB
    go_simp
    go_at_call 36
    refine hcl.mono ?_
    rintro e w2 ⟨rfl, h2⟩
    exact hK _ h2
  refine DetR.is (o := { dst := some 47, op := Op.binOp BinOp.neq 3 (Operand.tmp 46) (Operand.const (Value.int IntKind.i64 0)) 3, type := 4, pos := "law.go:180", after := #[{ on := 9, ground := Ground.data }, { on := 6, ground := Ground.guard }], guard := some (6, false) }) (u := .bool false) rfl (by decide) (fun T w' hb hd hB K hK => ?sx23) ?rx23
  case sx23 =>
    have e46 := hd 9 46 _ (by decide) (by kernel_rfl) rfl rfl
    replace e46 : T.getD 46 undef = _ := e46
    have eg := hd 6 43 _ (by decide) (by kernel_rfl) rfl rfl
    replace eg : T.getD 43 undef = .bool false := eg
    rw [if_pos (wanted_yes 6 43 false rfl rfl eg)]
    clear eg
    clear hd hB
    go_simp
    exact hK _ (Below.refl _ _)
  refine DetR.is (o := { dst := some 48, op := Op.pick (Operand.tmp 43) (Operand.const (Value.bool true)) (Operand.tmp 47), type := 4, pos := "law.go:180", after := #[{ on := 6, ground := Ground.data }, { on := 10, ground := Ground.data }], guard := none }) (u := .bool false) rfl (by decide) (fun T w' hb hd hB K hK => ?sx24) ?rx24
  case sx24 =>
    have e43 := hd 6 43 _ (by decide) (by kernel_rfl) rfl rfl
    replace e43 : T.getD 43 undef = _ := e43
    have e47 := hd 10 47 _ (by decide) (by kernel_rfl) rfl rfl
    replace e47 : T.getD 47 undef = _ := e47
    rw [if_pos (wanted_none _ rfl)]
    clear hd hB
    go_simp
    exact hK _ (Below.refl _ _)
  refine DetR.is (o := { dst := some 49, op := Op.move (Operand.tmp 48), type := 4, pos := "law.go:180", after := #[{ on := 11, ground := Ground.data }, { on := 9, ground := Ground.chain }], guard := none }) (u := ?ux25) rfl (by decide) (fun T w' hb hd hB K hK => ?sx25) ?rx25
  case sx25 =>
    have e48 := hd 11 48 _ (by decide) (by kernel_rfl) rfl rfl
    replace e48 : T.getD 48 undef = _ := e48
    rw [if_pos (wanted_none _ rfl)]
    clear hd hB
    go_simp
    exact hK _ (Below.refl _ _)
  refine DetR.is (o := { dst := some 50, op := Op.load 30 (Operand.tmp 7), type := 30, pos := "law.go:180", after := #[{ on := 12, ground := Ground.guard }], guard := some (12, false) }) (u := ?ux26) rfl (by decide) (fun T w' hb hd hB K hK => ?sx26) ?rx26
  case sx26 =>
    have e7 := (hB 7 (by kernel_rfl)).trans hT7
    have q7_0 : w'.cell? ⟨ga, 0, none⟩ = some (xf) := (blk_cell (blk_below hX7 hb) 0).trans rfl
    have q7_1 : w'.cell? ⟨ga, 1, none⟩ = some (xl) := (blk_cell (blk_below hX7 hb) 1).trans rfl
    have eg := hd 12 49 _ (by decide) (by kernel_rfl) rfl rfl
    replace eg : T.getD 49 undef = .bool false := eg
    rw [if_pos (wanted_yes 12 49 false rfl rfl eg)]
    clear eg
    clear hd hB
    go_simp
    exact hK _ (Below.refl _ _)
  refine DetR.cons (o := { dst := some 51, op := Op.call { callee := Callee.value (Operand.func 38), args := #[Operand.tmp 50], argTypes := #[30] }, type := 30, pos := "law.go:180", after := #[{ on := 13, ground := Ground.data }, { on := 12, ground := Ground.chain }, { on := 12, ground := Ground.guard }], guard := some (12, false) }) (TermTold k30 cf cl) rfl (by decide) (TermTold.grows _ _ _) (fun T w' hb hd hB K hK => ?sx27) ?rx27
  case sx27 =>
    have e50 := hd 13 50 _ (by decide) (by kernel_rfl) rfl rfl
    replace e50 : T.getD 50 undef = _ := e50
    have eg := hd 12 49 _ (by decide) (by kernel_rfl) rfl rfl
    replace eg : T.getD 49 undef = .bool false := eg
    rw [if_pos (wanted_yes 12 49 false rfl rfl eg)]
    clear eg
    have hcl := hF14 w' hb
    clear hd hB
    go_simp
    go_at_call 38
    refine hcl.mono ?_
    rintro e w2 ⟨u, rfl, h1, h2⟩
    exact hK _ _ h2 h1
  refine DetR.is (o := { dst := some 52, op := Op.load 30 (Operand.tmp 7), type := 30, pos := "law.go:180", after := #[{ on := 12, ground := Ground.guard }], guard := some (12, false) }) (u := ?ux28) rfl (by decide) (fun T w' hb hd hB K hK => ?sx28) ?rx28
  case sx28 =>
    have e7 := (hB 7 (by kernel_rfl)).trans hT7
    have q7_0 : w'.cell? ⟨ga, 0, none⟩ = some (xf) := (blk_cell (blk_below hX7 hb) 0).trans rfl
    have q7_1 : w'.cell? ⟨ga, 1, none⟩ = some (xl) := (blk_cell (blk_below hX7 hb) 1).trans rfl
    have eg := hd 12 49 _ (by decide) (by kernel_rfl) rfl rfl
    replace eg : T.getD 49 undef = .bool false := eg
    rw [if_pos (wanted_yes 12 49 false rfl rfl eg)]
    clear eg
    clear hd hB
    go_simp
    exact hK _ (Below.refl _ _)
  refine DetR.is (o := { dst := some 53, op := Op.call { callee := Callee.value (Operand.func 37), args := #[Operand.tmp 51, Operand.tmp 52], argTypes := #[30, 30] }, type := 4, pos := "law.go:180", after := #[{ on := 14, ground := Ground.data }, { on := 15, ground := Ground.data }, { on := 14, ground := Ground.chain }, { on := 12, ground := Ground.guard }], guard := some (12, false) }) (u := ?ux29) rfl (by decide) (fun T w' hb hd hB K hK => ?sx29) ?rx29
  case sx29 =>
    obtain ⟨A51, c51, e51, hl51, hC51⟩ := (hd 14 51 _ (by decide) (by kernel_rfl) rfl rfl)
    have e52 := hd 15 52 _ (by decide) (by kernel_rfl) rfl rfl
    replace e52 : T.getD 52 undef = _ := e52
    have eg := hd 12 49 _ (by decide) (by kernel_rfl) rfl rfl
    replace eg : T.getD 49 undef = .bool false := eg
    rw [if_pos (wanted_yes 12 49 false rfl rfl eg)]
    clear eg
    have hcl := hS w' A51 c51 hb hl51 hC51
    clear hd hB
    go_simp
    go_at_call 37
    refine hcl.mono ?_
    rintro e w2 ⟨rfl, h2⟩
    exact hK _ h2
  refine DetR.is (o := { dst := some 54, op := Op.unOp UnOp.not 4 (Operand.tmp 53), type := 4, pos := "law.go:180", after := #[{ on := 16, ground := Ground.data }, { on := 12, ground := Ground.guard }], guard := some (12, false) }) (u := .bool false) rfl (by decide) (fun T w' hb hd hB K hK => ?sx30) ?rx30
  case sx30 =>
    have e53 := hd 16 53 _ (by decide) (by kernel_rfl) rfl rfl
    replace e53 : T.getD 53 undef = _ := e53
    have eg := hd 12 49 _ (by decide) (by kernel_rfl) rfl rfl
    replace eg : T.getD 49 undef = .bool false := eg
    rw [if_pos (wanted_yes 12 49 false rfl rfl eg)]
    clear eg
    clear hd hB
    go_simp
    exact hK _ (Below.refl _ _)
  refine DetR.is (o := { dst := some 55, op := Op.pick (Operand.tmp 49) (Operand.const (Value.bool true)) (Operand.tmp 54), type := 4, pos := "law.go:180", after := #[{ on := 12, ground := Ground.data }, { on := 17, ground := Ground.data }], guard := none }) (u := .bool false) rfl (by decide) (fun T w' hb hd hB K hK => ?sx31) ?rx31
  case sx31 =>
    have e49 := hd 12 49 _ (by decide) (by kernel_rfl) rfl rfl
    replace e49 : T.getD 49 undef = _ := e49
    have e54 := hd 17 54 _ (by decide) (by kernel_rfl) rfl rfl
    replace e54 : T.getD 54 undef = _ := e54
    rw [if_pos (wanted_none _ rfl)]
    clear hd hB
    go_simp
    exact hK _ (Below.refl _ _)
  refine DetR.done [some 37, some 38, some 39, some 40, some 41, some 42, some 43, some 44, some 45, some 46, some 47, some 48, some 49, some 50, some 51, some 52, some 53, some 54, some 55] (by kernel_rfl) rfl (by kernel_rfl) ?_
  intro v w' hb hv
  exact hK v w' hb (hv 18 _ (by decide) rfl)
set_option maxHeartbeats 8000000 in
set_option maxRecDepth 100000 in
theorem TermOrder_walk (a b d : S24) (A : Option Addr) (c : Nat) (A' : Option Addr) (c' : Nat) (A2 : Option Addr) (c2 : Nat) (w : World)
    (hA : k24.C w A a.f1.length a.f1) (hc : a.f1.length ≤ c) (hA' : k24.C w A' b.f1.length b.f1) (hc' : b.f1.length ≤ c') (hA2 : k24.C w A2 d.f1.length d.f1) (hc2 : d.f1.length ≤ c2) :
    Calls Try.prog 5 #[.agg #[.int .i64 a.f0, .slice A a.f1.length c], .agg #[.int .i64 b.f0, .slice A' b.f1.length c'], .agg #[.int .i64 d.f0, .slice A2 d.f1.length c2]] w fun e w' => e = .returned (.bool true) ∧ Below w.heap.size w w' := by
  have hmx : Try.prog.follows .mixedOrders = true := by kernel_rfl
  obtain ⟨ok, hFine, hok⟩ := Fine_spec [a, b, d] (by simp)
  obtain ⟨kF, hF⟩ := hFine.rounds
  have hbA : Aside0 (∀ w1, Below w.heap.size w w1 → k24.C w1 A a.f1.length a.f1) := ⟨fun w1 h => Kd.C_below hA h⟩
  have hbB : Aside0 (∀ w1, Below w.heap.size w w1 → k24.C w1 A' b.f1.length b.f1) := ⟨fun w1 h => Kd.C_below hA' h⟩
  have hbD : Aside0 (∀ w1, Below w.heap.size w w1 → k24.C w1 A2 d.f1.length d.f1) := ⟨fun w1 h => Kd.C_below hA2 h⟩
  clear hA hA' hA2 hFine
  go_enter Try.func5, Try.ntmps5
  cases ok with
  | false =>
    go_wp2_with (first | (go_at_call 20; refine (soriteslaw06_alive.calls true _ alive06).mono ?_; rintro e w1 ⟨rfl, hb1⟩; have hs1 := hb1.size; simp only [World.size_alloc] at hs1; have hB1 : Below w.heap.size w w1 := (below_alloc (below_alloc (below_alloc (Below.refl _ _) _) _) _).trans (hb1.mono (by simp; omega)); have hg0 : w1.heap[w.heap.size]? = some (.cells #[.int .i64 a.f0, .slice A a.f1.length c] 24 (0, 0)) := blk_below (blk_alloc (blk_alloc (heap_alloc_new _ _) _) _) hb1; have hg1 : w1.heap[w.heap.size + 1]? = some (.cells #[.int .i64 b.f0, .slice A' b.f1.length c'] 24 (0, 0)) := blk_below (blk_alloc (by have := heap_alloc_new (w.alloc (.cells #[.int .i64 a.f0, .slice A a.f1.length c] 24)) (.cells #[.int .i64 b.f0, .slice A' b.f1.length c'] 24); rw [World.size_alloc] at this; exact this) _) hb1; have hg2 : w1.heap[w.heap.size + 1 + 1]? = some (.cells #[.int .i64 d.f0, .slice A2 d.f1.length c2] 24 (0, 0)) := blk_below (by have := heap_alloc_new ((w.alloc (.cells #[.int .i64 a.f0, .slice A a.f1.length c] 24)).alloc (.cells #[.int .i64 b.f0, .slice A' b.f1.length c'] 24)) (.cells #[.int .i64 d.f0, .slice A2 d.f1.length c2] 24); rw [World.size_alloc, World.size_alloc] at this; exact this) hb1; have hx0 : w1.cell? ⟨w.heap.size, 0, none⟩ = some (.int .i64 a.f0) := (blk_cell hg0 0).trans rfl; have hx1 : w1.cell? ⟨w.heap.size, 1, none⟩ = some (.slice A a.f1.length c) := (blk_cell hg0 1).trans rfl; have hy0 : w1.cell? ⟨w.heap.size + 1, 0, none⟩ = some (.int .i64 b.f0) := (blk_cell hg1 0).trans rfl; have hy1 : w1.cell? ⟨w.heap.size + 1, 1, none⟩ = some (.slice A' b.f1.length c') := (blk_cell hg1 1).trans rfl; have hz0 : w1.cell? ⟨w.heap.size + 1 + 1, 0, none⟩ = some (.int .i64 d.f0) := (blk_cell hg2 0).trans rfl; have hz1 : w1.cell? ⟨w.heap.size + 1 + 1, 1, none⟩ = some (.slice A2 d.f1.length c2) := (blk_cell hg2 1).trans rfl) | (go_at_call 21; refine (soriteslaw06_Fine.calls kF _ 3 [a, b, d] _ _ (C3 k24 rfl (K24 (hbA.out _ (below_alloc hB1 _)) hc) (K24 (hbB.out _ (below_alloc hB1 _)) hc') (K24 (hbD.out _ (below_alloc hB1 _)) hc2) (heap_alloc_new _ _)) (by simp) hF).mono ?_; rintro e w2 ⟨rfl, hb2⟩; have hB2 : Below w.heap.size w w2 := (below_alloc hB1 _).trans (hb2.mono (by simp; omega)); have hh0 := blk_below (blk_alloc hg0 _) hb2; have hh1 := blk_below (blk_alloc hg1 _) hb2; have hh2 := blk_below (blk_alloc hg2 _) hb2))
    go_ret
    exact ⟨rfl, hB2⟩
  | true =>
    go_wp2_with (first | (go_at_call 20; refine (soriteslaw06_alive.calls true _ alive06).mono ?_; rintro e w1 ⟨rfl, hb1⟩; have hs1 := hb1.size; simp only [World.size_alloc] at hs1; have hB1 : Below w.heap.size w w1 := (below_alloc (below_alloc (below_alloc (Below.refl _ _) _) _) _).trans (hb1.mono (by simp; omega)); have hg0 : w1.heap[w.heap.size]? = some (.cells #[.int .i64 a.f0, .slice A a.f1.length c] 24 (0, 0)) := blk_below (blk_alloc (blk_alloc (heap_alloc_new _ _) _) _) hb1; have hg1 : w1.heap[w.heap.size + 1]? = some (.cells #[.int .i64 b.f0, .slice A' b.f1.length c'] 24 (0, 0)) := blk_below (blk_alloc (by have := heap_alloc_new (w.alloc (.cells #[.int .i64 a.f0, .slice A a.f1.length c] 24)) (.cells #[.int .i64 b.f0, .slice A' b.f1.length c'] 24); rw [World.size_alloc] at this; exact this) _) hb1; have hg2 : w1.heap[w.heap.size + 1 + 1]? = some (.cells #[.int .i64 d.f0, .slice A2 d.f1.length c2] 24 (0, 0)) := blk_below (by have := heap_alloc_new ((w.alloc (.cells #[.int .i64 a.f0, .slice A a.f1.length c] 24)).alloc (.cells #[.int .i64 b.f0, .slice A' b.f1.length c'] 24)) (.cells #[.int .i64 d.f0, .slice A2 d.f1.length c2] 24); rw [World.size_alloc, World.size_alloc] at this; exact this) hb1; have hx0 : w1.cell? ⟨w.heap.size, 0, none⟩ = some (.int .i64 a.f0) := (blk_cell hg0 0).trans rfl; have hx1 : w1.cell? ⟨w.heap.size, 1, none⟩ = some (.slice A a.f1.length c) := (blk_cell hg0 1).trans rfl; have hy0 : w1.cell? ⟨w.heap.size + 1, 0, none⟩ = some (.int .i64 b.f0) := (blk_cell hg1 0).trans rfl; have hy1 : w1.cell? ⟨w.heap.size + 1, 1, none⟩ = some (.slice A' b.f1.length c') := (blk_cell hg1 1).trans rfl; have hz0 : w1.cell? ⟨w.heap.size + 1 + 1, 0, none⟩ = some (.int .i64 d.f0) := (blk_cell hg2 0).trans rfl; have hz1 : w1.cell? ⟨w.heap.size + 1 + 1, 1, none⟩ = some (.slice A2 d.f1.length c2) := (blk_cell hg2 1).trans rfl) | (go_at_call 21; refine (soriteslaw06_Fine.calls kF _ 3 [a, b, d] _ _ (C3 k24 rfl (K24 (hbA.out _ (below_alloc hB1 _)) hc) (K24 (hbB.out _ (below_alloc hB1 _)) hc') (K24 (hbD.out _ (below_alloc hB1 _)) hc2) (heap_alloc_new _ _)) (by simp) hF).mono ?_; rintro e w2 ⟨rfl, hb2⟩; have hB2 : Below w.heap.size w w2 := (below_alloc hB1 _).trans (hb2.mono (by simp; omega)); have hh0 := blk_below (blk_alloc hg0 _) hb2; have hh1 := blk_below (blk_alloc hg1 _) hb2; have hh2 := blk_below (blk_alloc hg2 _) hb2))
    have hoka := hok trivial a (by simp)
    have hokb := hok trivial b (by simp)
    have hokd := hok trivial d (by simp)
    refine of_three (x0 := a) (x1 := b) (x2 := d) (g0 := w.heap.size) (g1 := w.heap.size + 1) (g2 := w.heap.size + 1 + 1) (by kernel_rfl) (by kernel_rfl) rfl hh0 (hbA.out _ hB2) hc hoka.1 rfl hh1 (hbB.out _ hB2) hc' hokb.1 rfl hh2 (hbD.out _ hB2) hc2 hokd.1 ?_
    intro w3 X0 q0 h0 X1 q1 h1 X2 q2 h2 hb3 hge0 hx0' hq0 hC0 hge1 hx1' hq1 hC1 hge2 hx2' hq2 hC2
    have HB3 := Aside0.mk (hB2.trans (hb3.mono hB2.size))
    have HC0 := Aside0.mk hC0
    have HC1 := Aside0.mk hC1
    have HC2 := Aside0.mk hC2
    have HX0 := Aside0.mk hx0'
    have HX1 := Aside0.mk hx1'
    have HX2 := Aside0.mk hx2'
    have hna := Nat.le_trans (nodes_le a) hoka.2
    have hnb := Nat.le_trans (nodes_le b) hokb.2
    have hanti := cmp_anti a b
    have hrg := cmp_range a b
    have htr := cmp_trans a b d
    have hself := Cmp_of a a
    rw [cmp_self a] at hself
    obtain ⟨kc, hcl⟩ := (Clone_spec a hoka.1).rounds
    have hsc := Same_of (cloneT a) a
    rw [cmp_clone a] at hsc
    have hcp := Cmp_of a b
    have hcq := Cmp_of b d
    have hcr := Cmp_of a d
    have hcn := Cmp_of b a
    rw [hanti] at hcn
    obtain ⟨p, hp⟩ : ∃ p, p = cmpT a b := ⟨_, rfl⟩
    obtain ⟨q, hq⟩ : ∃ q, q = cmpT b d := ⟨_, rfl⟩
    obtain ⟨r, hr⟩ : ∃ r, r = cmpT a d := ⟨_, rfl⟩
    rw [← hp] at hrg htr hcp hcn
    rw [← hq] at htr hcq
    rw [← hr] at htr hcr
    have hsv : term_Same.f (-3) [a, b] (-3) [] = some true := by
      have := Same_of ⟨-3, [a, b]⟩ ⟨-3, []⟩
      rw [this]; simp [cmpT, cmpI]
    have hzv : term_Size.f (-3) [a, b] = some 1 := by simp [term_Size.f, flatP]
    have hcv : term_Compare.f (-1) [] (-2) [] = some (-1) := by simp [term_Compare.f, cmpT, cmpI]
    have FH := Aside0.mk (And.intro hrg htr)
    have FC := Aside0.mk (And.intro hcp (And.intro hcq (And.intro hcr (And.intro hcn hself))))
    have FL := Aside0.mk (And.intro hcl hsc)
    have FV := Aside0.mk (And.intro hsv (And.intro hzv hcv))
    clear hrg htr hcp hcq hcr hcn hself hcl hsc hsv hzv hcv hp hq hr hanti hoka hokb hokd hok hna hnb hbA hbB hbD hC0 hC1 hC2 hx0' hx1' hx2' hb3 hg0 hg1 hg2 hh0 hh1 hh2 hx0 hx1 hy0 hy1 hz0 hz1 hB1 hB2 hb1 hb2 hF hge0 hge1 hge2
    simp only [List.setIfInBounds_toArray, List.set_cons_zero, List.set_cons_succ]
    go_wp2
    refine TermOrder_r6 (p := p) (q := q) (r := r) (by kernel_rfl) rfl HX0.out rfl HX1.out rfl HX2.out ?_ ?_ ?_ ?_
    · intro w1 hb; exact term_Compare.calls _ _ _ a.f1 _ _ _ b.f1 p w1 (Kd.C_below HC0.out hb) hq0 (Kd.C_below HC1.out hb) hq1 FC.out.1
    · intro w1 hb; exact term_Compare.calls _ _ _ b.f1 _ _ _ d.f1 q w1 (Kd.C_below HC1.out hb) hq1 (Kd.C_below HC2.out hb) hq2 FC.out.2.1
    · intro w1 hb; exact term_Compare.calls _ _ _ a.f1 _ _ _ d.f1 r w1 (Kd.C_below HC0.out hb) hq0 (Kd.C_below HC2.out hb) hq2 FC.out.2.2.1
    intro v w4 hb4 hv9 hv10 hv11
    simp only [layL, Nat.reduceAdd, List.setIfInBounds_toArray, List.set_cons_zero, List.set_cons_succ, hv9, hv10, hv11]
    clear hv9 hv10 hv11
    have hb4 := Aside0.mk hb4
    generalize v 0 = y0
    generalize v 1 = y1
    generalize v 2 = y2
    generalize v 3 = y3
    generalize v 4 = y4
    generalize v 5 = y5
    generalize v 6 = y6
    generalize v 7 = y7
    generalize v 8 = y8
    clear v
    go_wp2
    refine TermOrder_r7 (p := p) (pn := -p) (cf := (cloneT a).f0) (cl := (cloneT a).f1) (by kernel_rfl) rfl rfl (blk_below HX0.out hb4.out) rfl (blk_below HX1.out hb4.out) ?_ ?_ ?_ rfl FH.out.1 ?_ ?_
    · intro w1 hb; exact term_Compare.calls _ _ _ b.f1 _ _ _ a.f1 (-p) w1 (Kd.C_below (Kd.C_below HC1.out hb4.out) hb) hq1 (Kd.C_below (Kd.C_below HC0.out hb4.out) hb) hq0 FC.out.2.2.2.1
    · intro w1 hb; exact term_Compare.calls _ _ _ a.f1 _ _ _ a.f1 0 w1 (Kd.C_below (Kd.C_below HC0.out hb4.out) hb) hq0 (Kd.C_below (Kd.C_below HC0.out hb4.out) hb) hq0 FC.out.2.2.2.2
    · intro w1 hb; exact (term_Clone.calls kc _ _ _ a.f1 _ _ w1 (Kd.C_below (Kd.C_below HC0.out hb4.out) hb) hq0 FL.out.1).mono (fun e w2 ⟨v1, h1, h2, h3⟩ => ⟨_, h1, TermTold.of h2, h3⟩)
    · intro w1 A c hb hl hC; exact term_Same.calls _ _ _ _ _ _ _ a.f1 true w1 hC hl (Kd.C_below (Kd.C_below HC0.out hb4.out) hb) hq0 FL.out.2
    intro v w5 hb5 hv18
    simp only [layL, Nat.reduceAdd, List.setIfInBounds_toArray, List.set_cons_zero, List.set_cons_succ, hv18]
    clear hv18
    have HC05 := Aside0.mk (Kd.C_below (Kd.C_below HC0.out hb4.out) hb5)
    have HC15 := Aside0.mk (Kd.C_below (Kd.C_below HC1.out hb4.out) hb5)
    have HX05 := blk_below (blk_below HX0.out hb4.out) hb5
    have HX15 := blk_below (blk_below HX1.out hb4.out) hb5
    have k00 : w5.cell? ⟨h0, 0, none⟩ = some (.int .i64 a.f0) := (blk_cell HX05 0).trans rfl
    have k01 : w5.cell? ⟨h0, 1, none⟩ = some (.slice X0 a.f1.length q0) := (blk_cell HX05 1).trans rfl
    have k10 : w5.cell? ⟨h1, 0, none⟩ = some (.int .i64 b.f0) := (blk_cell HX15 0).trans rfl
    have k11 : w5.cell? ⟨h1, 1, none⟩ = some (.slice X1 b.f1.length q1) := (blk_cell HX15 1).trans rfl
    have HB5 := Aside0.mk ((HB3.out.trans (hb4.out.mono HB3.out.size)).trans (hb5.mono (Nat.le_trans HB3.out.size hb4.out.size)))
    clear HC0 HC1 HC2 HX0 HX1 HX2 HX05 HX15 hb4 hb5 HB3 FC FL
    generalize v 0 = y10
    generalize v 1 = y11
    generalize v 2 = y12
    generalize v 3 = y13
    generalize v 4 = y14
    generalize v 5 = y15
    generalize v 6 = y16
    generalize v 7 = y17
    generalize v 8 = y18
    generalize v 9 = y19
    generalize v 10 = y20
    generalize v 11 = y21
    generalize v 12 = y22
    generalize v 13 = y23
    generalize v 14 = y24
    generalize v 15 = y25
    generalize v 16 = y26
    generalize v 17 = y27
    clear v
    by_cases hp : p ≤ 0
    · have hdp : decide (p ≤ 0) = true := decide_eq_true hp
      by_cases hq : q ≤ 0
      · have hdq : decide (q ≤ 0) = true := decide_eq_true hq
        obtain ⟨hr0, hri⟩ := FH.out.2 hp hq
        have hr1 : decide (0 < r) = false := decide_eq_false (by omega)
        by_cases hrz : r = 0
        · obtain ⟨hpz, hqz⟩ := hri.1 hrz
          subst hpz hqz hrz
          clear hri hr0 hr1 hp hq hdp hdq FH
          go_wp2_with (first | (go_at_call 37; have hCv := Aside0.mk (show k30.C ((w5.alloc (.cells #[.int .i64 a.f0, .slice X0 a.f1.length q0, .int .i64 b.f0, .slice X1 b.f1.length q1] 30)).alloc (.cells #[.int .i64 (-3), .slice (some ⟨w5.heap.size, 0, none⟩) 2 2] 30)) (some ⟨w5.heap.size, 0, none⟩) 2 [a, b] from (C2 k30 rfl (K30 (Kd.C_below HC05.out (below_alloc (below_alloc (Below.refl _ _) _) _)) hq0) (K30 (Kd.C_below HC15.out (below_alloc (below_alloc (Below.refl _ _) _) _)) hq1) (blk_alloc (heap_alloc_new _ _) _))); refine (term_Same.calls (-3) (some ⟨w5.heap.size, 0, none⟩) 2 [a, b] (-3) none 0 [] true _ hCv.out (by simp) ⟨rfl, Nat.zero_le _, fun h => absurd h (Nat.lt_irrefl _)⟩ (Nat.le_refl _) FV.out.1).mono ?_; rintro e w6 ⟨rfl, hb6⟩; have hbx : w6.heap[w5.heap.size + 1]? = some (.cells #[.int .i64 (-3), .slice (some ⟨w5.heap.size, 0, none⟩) 2 2] 30 (0, 0)) := blk_below (by have := heap_alloc_new (w5.alloc (.cells #[.int .i64 a.f0, .slice X0 a.f1.length q0, .int .i64 b.f0, .slice X1 b.f1.length q1] 30)) (.cells #[.int .i64 (-3), .slice (some ⟨w5.heap.size, 0, none⟩) 2 2] 30); rw [World.size_alloc] at this; exact this) hb6; have j0 : w6.cell? ⟨w5.heap.size + 1, 0, none⟩ = some (.int .i64 (-3)) := (blk_cell hbx 0).trans rfl; have j1 : w6.cell? ⟨w5.heap.size + 1, 1, none⟩ = some (.slice (some ⟨w5.heap.size, 0, none⟩) 2 2) := (blk_cell hbx 1).trans rfl; have hC6 := Aside0.mk (Kd.C_below hCv.out hb6); have hB6 := Aside0.mk ((HB5.out.trans ((below_alloc (below_alloc (Below.refl _ _) _) _ : Below w5.heap.size w5 _).mono HB5.out.size)).trans (hb6.mono (by have := HB5.out.size; simp; omega))); clear hbx hb6 hCv) | (go_at_call 34; refine (term_Size.calls (-3) (some ⟨w5.heap.size, 0, none⟩) 2 [a, b] 1 _ hC6.out (by simp) FV.out.2.1).mono ?_; rintro e w7 ⟨rfl, hb7⟩; have hB7 := Aside0.mk (hB6.out.trans (hb7.mono hB6.out.size)); clear hb7) | (go_at_call 36; refine (term_Compare.calls (-1) none 0 [] (-2) none 0 [] (-1) _ ⟨rfl, Nat.zero_le _, fun h => absurd h (Nat.lt_irrefl _)⟩ (Nat.le_refl _) ⟨rfl, Nat.zero_le _, fun h => absurd h (Nat.lt_irrefl _)⟩ (Nat.le_refl _) FV.out.2.2).mono ?_; rintro e w8 ⟨rfl, hb8⟩; have hB8 := Aside0.mk (hB7.out.trans (hb8.mono hB7.out.size)); clear hb8))
          go_ret
          exact ⟨rfl, hB8.out⟩
        · have hr2 : (r == 0) = false := by simpa using hrz
          clear hri hr0 hp hq hrz FH
          go_wp2_with (first | (go_at_call 37; have hCv := Aside0.mk (show k30.C ((w5.alloc (.cells #[.int .i64 a.f0, .slice X0 a.f1.length q0, .int .i64 b.f0, .slice X1 b.f1.length q1] 30)).alloc (.cells #[.int .i64 (-3), .slice (some ⟨w5.heap.size, 0, none⟩) 2 2] 30)) (some ⟨w5.heap.size, 0, none⟩) 2 [a, b] from (C2 k30 rfl (K30 (Kd.C_below HC05.out (below_alloc (below_alloc (Below.refl _ _) _) _)) hq0) (K30 (Kd.C_below HC15.out (below_alloc (below_alloc (Below.refl _ _) _) _)) hq1) (blk_alloc (heap_alloc_new _ _) _))); refine (term_Same.calls (-3) (some ⟨w5.heap.size, 0, none⟩) 2 [a, b] (-3) none 0 [] true _ hCv.out (by simp) ⟨rfl, Nat.zero_le _, fun h => absurd h (Nat.lt_irrefl _)⟩ (Nat.le_refl _) FV.out.1).mono ?_; rintro e w6 ⟨rfl, hb6⟩; have hbx : w6.heap[w5.heap.size + 1]? = some (.cells #[.int .i64 (-3), .slice (some ⟨w5.heap.size, 0, none⟩) 2 2] 30 (0, 0)) := blk_below (by have := heap_alloc_new (w5.alloc (.cells #[.int .i64 a.f0, .slice X0 a.f1.length q0, .int .i64 b.f0, .slice X1 b.f1.length q1] 30)) (.cells #[.int .i64 (-3), .slice (some ⟨w5.heap.size, 0, none⟩) 2 2] 30); rw [World.size_alloc] at this; exact this) hb6; have j0 : w6.cell? ⟨w5.heap.size + 1, 0, none⟩ = some (.int .i64 (-3)) := (blk_cell hbx 0).trans rfl; have j1 : w6.cell? ⟨w5.heap.size + 1, 1, none⟩ = some (.slice (some ⟨w5.heap.size, 0, none⟩) 2 2) := (blk_cell hbx 1).trans rfl; have hC6 := Aside0.mk (Kd.C_below hCv.out hb6); have hB6 := Aside0.mk ((HB5.out.trans ((below_alloc (below_alloc (Below.refl _ _) _) _ : Below w5.heap.size w5 _).mono HB5.out.size)).trans (hb6.mono (by have := HB5.out.size; simp; omega))); clear hbx hb6 hCv) | (go_at_call 34; refine (term_Size.calls (-3) (some ⟨w5.heap.size, 0, none⟩) 2 [a, b] 1 _ hC6.out (by simp) FV.out.2.1).mono ?_; rintro e w7 ⟨rfl, hb7⟩; have hB7 := Aside0.mk (hB6.out.trans (hb7.mono hB6.out.size)); clear hb7) | (go_at_call 36; refine (term_Compare.calls (-1) none 0 [] (-2) none 0 [] (-1) _ ⟨rfl, Nat.zero_le _, fun h => absurd h (Nat.lt_irrefl _)⟩ (Nat.le_refl _) ⟨rfl, Nat.zero_le _, fun h => absurd h (Nat.lt_irrefl _)⟩ (Nat.le_refl _) FV.out.2.2).mono ?_; rintro e w8 ⟨rfl, hb8⟩; have hB8 := Aside0.mk (hB7.out.trans (hb8.mono hB7.out.size)); clear hb8))
          go_ret
          exact ⟨rfl, hB8.out⟩
      · have hdq : decide (q ≤ 0) = false := decide_eq_false hq
        clear hp hq FH
        go_wp2_with (first | (go_at_call 37; have hCv := Aside0.mk (show k30.C ((w5.alloc (.cells #[.int .i64 a.f0, .slice X0 a.f1.length q0, .int .i64 b.f0, .slice X1 b.f1.length q1] 30)).alloc (.cells #[.int .i64 (-3), .slice (some ⟨w5.heap.size, 0, none⟩) 2 2] 30)) (some ⟨w5.heap.size, 0, none⟩) 2 [a, b] from (C2 k30 rfl (K30 (Kd.C_below HC05.out (below_alloc (below_alloc (Below.refl _ _) _) _)) hq0) (K30 (Kd.C_below HC15.out (below_alloc (below_alloc (Below.refl _ _) _) _)) hq1) (blk_alloc (heap_alloc_new _ _) _))); refine (term_Same.calls (-3) (some ⟨w5.heap.size, 0, none⟩) 2 [a, b] (-3) none 0 [] true _ hCv.out (by simp) ⟨rfl, Nat.zero_le _, fun h => absurd h (Nat.lt_irrefl _)⟩ (Nat.le_refl _) FV.out.1).mono ?_; rintro e w6 ⟨rfl, hb6⟩; have hbx : w6.heap[w5.heap.size + 1]? = some (.cells #[.int .i64 (-3), .slice (some ⟨w5.heap.size, 0, none⟩) 2 2] 30 (0, 0)) := blk_below (by have := heap_alloc_new (w5.alloc (.cells #[.int .i64 a.f0, .slice X0 a.f1.length q0, .int .i64 b.f0, .slice X1 b.f1.length q1] 30)) (.cells #[.int .i64 (-3), .slice (some ⟨w5.heap.size, 0, none⟩) 2 2] 30); rw [World.size_alloc] at this; exact this) hb6; have j0 : w6.cell? ⟨w5.heap.size + 1, 0, none⟩ = some (.int .i64 (-3)) := (blk_cell hbx 0).trans rfl; have j1 : w6.cell? ⟨w5.heap.size + 1, 1, none⟩ = some (.slice (some ⟨w5.heap.size, 0, none⟩) 2 2) := (blk_cell hbx 1).trans rfl; have hC6 := Aside0.mk (Kd.C_below hCv.out hb6); have hB6 := Aside0.mk ((HB5.out.trans ((below_alloc (below_alloc (Below.refl _ _) _) _ : Below w5.heap.size w5 _).mono HB5.out.size)).trans (hb6.mono (by have := HB5.out.size; simp; omega))); clear hbx hb6 hCv) | (go_at_call 34; refine (term_Size.calls (-3) (some ⟨w5.heap.size, 0, none⟩) 2 [a, b] 1 _ hC6.out (by simp) FV.out.2.1).mono ?_; rintro e w7 ⟨rfl, hb7⟩; have hB7 := Aside0.mk (hB6.out.trans (hb7.mono hB6.out.size)); clear hb7) | (go_at_call 36; refine (term_Compare.calls (-1) none 0 [] (-2) none 0 [] (-1) _ ⟨rfl, Nat.zero_le _, fun h => absurd h (Nat.lt_irrefl _)⟩ (Nat.le_refl _) ⟨rfl, Nat.zero_le _, fun h => absurd h (Nat.lt_irrefl _)⟩ (Nat.le_refl _) FV.out.2.2).mono ?_; rintro e w8 ⟨rfl, hb8⟩; have hB8 := Aside0.mk (hB7.out.trans (hb8.mono hB7.out.size)); clear hb8))
        go_ret
        exact ⟨rfl, hB8.out⟩
    · have hdp : decide (p ≤ 0) = false := decide_eq_false hp
      clear hp FH
      go_wp2_with (first | (go_at_call 37; have hCv := Aside0.mk (show k30.C ((w5.alloc (.cells #[.int .i64 a.f0, .slice X0 a.f1.length q0, .int .i64 b.f0, .slice X1 b.f1.length q1] 30)).alloc (.cells #[.int .i64 (-3), .slice (some ⟨w5.heap.size, 0, none⟩) 2 2] 30)) (some ⟨w5.heap.size, 0, none⟩) 2 [a, b] from (C2 k30 rfl (K30 (Kd.C_below HC05.out (below_alloc (below_alloc (Below.refl _ _) _) _)) hq0) (K30 (Kd.C_below HC15.out (below_alloc (below_alloc (Below.refl _ _) _) _)) hq1) (blk_alloc (heap_alloc_new _ _) _))); refine (term_Same.calls (-3) (some ⟨w5.heap.size, 0, none⟩) 2 [a, b] (-3) none 0 [] true _ hCv.out (by simp) ⟨rfl, Nat.zero_le _, fun h => absurd h (Nat.lt_irrefl _)⟩ (Nat.le_refl _) FV.out.1).mono ?_; rintro e w6 ⟨rfl, hb6⟩; have hbx : w6.heap[w5.heap.size + 1]? = some (.cells #[.int .i64 (-3), .slice (some ⟨w5.heap.size, 0, none⟩) 2 2] 30 (0, 0)) := blk_below (by have := heap_alloc_new (w5.alloc (.cells #[.int .i64 a.f0, .slice X0 a.f1.length q0, .int .i64 b.f0, .slice X1 b.f1.length q1] 30)) (.cells #[.int .i64 (-3), .slice (some ⟨w5.heap.size, 0, none⟩) 2 2] 30); rw [World.size_alloc] at this; exact this) hb6; have j0 : w6.cell? ⟨w5.heap.size + 1, 0, none⟩ = some (.int .i64 (-3)) := (blk_cell hbx 0).trans rfl; have j1 : w6.cell? ⟨w5.heap.size + 1, 1, none⟩ = some (.slice (some ⟨w5.heap.size, 0, none⟩) 2 2) := (blk_cell hbx 1).trans rfl; have hC6 := Aside0.mk (Kd.C_below hCv.out hb6); have hB6 := Aside0.mk ((HB5.out.trans ((below_alloc (below_alloc (Below.refl _ _) _) _ : Below w5.heap.size w5 _).mono HB5.out.size)).trans (hb6.mono (by have := HB5.out.size; simp; omega))); clear hbx hb6 hCv) | (go_at_call 34; refine (term_Size.calls (-3) (some ⟨w5.heap.size, 0, none⟩) 2 [a, b] 1 _ hC6.out (by simp) FV.out.2.1).mono ?_; rintro e w7 ⟨rfl, hb7⟩; have hB7 := Aside0.mk (hB6.out.trans (hb7.mono hB6.out.size)); clear hb7) | (go_at_call 36; refine (term_Compare.calls (-1) none 0 [] (-2) none 0 [] (-1) _ ⟨rfl, Nat.zero_le _, fun h => absurd h (Nat.lt_irrefl _)⟩ (Nat.le_refl _) ⟨rfl, Nat.zero_le _, fun h => absurd h (Nat.lt_irrefl _)⟩ (Nat.le_refl _) FV.out.2.2).mono ?_; rintro e w8 ⟨rfl, hb8⟩; have hB8 := Aside0.mk (hB7.out.trans (hb8.mono hB7.out.size)); clear hb8))
      go_ret
      exact ⟨rfl, hB8.out⟩
end Go.Proofs.Ytpfddihcikiofaa.P
end
section
namespace Go.Proofs.Ytpfddihcikiofaa.termOrder
open Go.ChangeShapes Go.WideShapes Go.ChangeAt Go.RowKit
set_option linter.unusedVariables false
theorem own : ownKnob Try.prog.godebug = none := by kernel_rfl
theorem laidOut : laidOutB Try.prog = true := by kernel_rfl
set_option maxRecDepth 100000 in
theorem lifted (os : Os) (started : os.Started) (H : Type) (enc : TypeId × Value → H) :
    ReturnsInHanded {} Try.checked os 5 .any (Rows.termOrderSpec.pre6 enc Try.prog Try.f5 Rows.termOrderRow.domain false) (Rows.termOrderSpec.post enc Try.prog Try.f5 false true false false) := by
  refine returnsInHanded_of_change_sized (C := Try.checked) own started (by kernel_rfl) Try.func5
    (ChangeSpec.witness6 (enc := enc) (C := Try.checked) false ⟨#[], #[.agg #[.int .i64 0, .slice none 0 0], .agg #[.int .i64 0, .slice none 0 0], .agg #[.int .i64 0, .slice none 0 0]], []⟩ 8 (by kernel_rfl) (by kernel_rfl) (by kernel_rfl) (by kernel_rfl)) ?_
  intro W base args ds gs before hval0 hW hcnd hsz0 _
  have hval : ∀ (j : Nat) t v, Try.f5.params[j]? = some t → args[j]? = some v → Value.okWide Try.prog W .any base t v := hval0
  have hW' := hW
  obtain ⟨p, q, hA0, hV, rfl, hfz, hnd⟩ := hW
  have hA : DataW.TrodAll enc Try.prog W 0 (fun _ => true) true Try.f5.params.toList args.toList ds p := hA0
  rw [Try.params5] at hA hval
  obtain ⟨v0, vs0, d0, ds0, p0, q0, hargs, rfl, rfl, h0, r0⟩ := trodAll_cons hA
  obtain ⟨v1, vs1, d1, ds1, p1, q1, rfl, rfl, rfl, h1, r1⟩ := trodAll_cons r0
  obtain ⟨v2, vs2, d2, ds2, p2, q2, rfl, rfl, rfl, h2, r2⟩ := trodAll_cons r1
  obtain ⟨rfl, rfl, rfl⟩ := trodAll_nil r2
  obtain rfl : args = #[v0, v1, v2] := by cases args; simp_all
  obtain ⟨rfl, rfl⟩ := trodVars_none hV
  have k0 := h0
  have lt0 : ∀ x ∈ p0, x.block < W.heap.size := by obtain ⟨m, hm⟩ := k0; exact DataW.trod_lt m _ _ _ hm
  obtain ⟨t0, A0, c0, rfl, hc0, hC0, hw0⟩ := P.open_T (hval 0 24 v0 rfl rfl) h0
  have k1 := h1
  have lt1 : ∀ x ∈ p1, x.block < W.heap.size := by obtain ⟨m, hm⟩ := k1; exact DataW.trod_lt m _ _ _ hm
  obtain ⟨t1, A1, c1, rfl, hc1, hC1, hw1⟩ := P.open_T (hval 1 24 v1 rfl rfl) h1
  have k2 := h2
  have lt2 : ∀ x ∈ p2, x.block < W.heap.size := by obtain ⟨m, hm⟩ := k2; exact DataW.trod_lt m _ _ _ hm
  obtain ⟨t2, A2, c2, rfl, hc2, hC2, hw2⟩ := P.open_T (hval 2 24 v2 rfl rfl) h2
  clear hA0 hval0 hsz0
  refine (P.TermOrder_walk t0 t1 t2 A0 c0 A1 c1 A2 c2 W hC0 hc0 hC1 hc1 hC2 hc2).mono fun e W' ⟨he, bel⟩ => ?_
  subst he
  exact ⟨_, rfl, _, _, _, [], _, [], hW', trodAll_mk1 (shut_bool Try.underlying4 _), (trodAll_cons_mk (Below.trod laidOut (by kernel_rfl) (of_decide_eq_true (by kernel_rfl)) k0 bel lt0) (trodAll_cons_mk (Below.trod laidOut (by kernel_rfl) (of_decide_eq_true (by kernel_rfl)) k1 bel lt1) (trodAll_cons_mk (Below.trod laidOut (by kernel_rfl) (of_decide_eq_true (by kernel_rfl)) k2 bel lt2) trodAll_mk0))), rfl, bel.frame _, fun h => by cases h⟩
theorem over : Rows.termOrderRow.holds Try.pinned (OpenSpec.ofChange Rows.termOrderSpec) :=
  OpenClaim.holds_of_wide 5 Try.f5 rfl rfl rfl rfl rfl rfl rfl ⟨rfl, rfl, rfl, rfl, rfl⟩ rfl rfl rfl rfl rfl (by kernel_rfl) Try.func5 (by kernel_rfl)
    (of_decide_eq_true (by kernel_rfl)) (by unfold Func.isWrapper; first | (rw [if_pos (by decide +kernel)]; kernel_rfl) | (rw [if_neg (by decide +kernel)]; exact ⟨rfl, rfl⟩))
    (fun os started H enc _ => lifted os started H enc)
end Go.Proofs.Ytpfddihcikiofaa.termOrder
namespace Go.Proofs.Ytpfddihcikiofaa
theorem termOrder_holds : Rows.TermOrderSaid := termOrder.over
#print axioms termOrder_holds
end Go.Proofs.Ytpfddihcikiofaa
end
