/- The law KboSizes holds of every input. Part 4 of 5: GSpec10, GNew, GKsRegs, GStore, GSubst, GMapR, GRet, GKboLaw, GPlaceLaw. -/
import Derived.Test.YtpfddihcikiofaaZKboSizes3
import Derived.Test.YtpfddihcikiofaaZKboSizes2
import Derived.Test.YtpfddihcikiofaaZKboSizes1
section
namespace Go.Proofs.Ytpfddihcikiofaa.P
open Go.RowKit Go.Proofs.YtpfddihcikiofaaW.PrintWords Go.Proofs.YtpfddihcikiofaaW.PrintLast Go.Proofs.YtpfddihcikiofaaW.PrintMore
set_option linter.unusedVariables false
set_option linter.unusedSimpArgs false
mutual
def gtT : S30 → S30 → Bool
  | ⟨f, l⟩, ⟨g, m⟩ => covT ⟨f, l⟩ ⟨g, m⟩ && (if (nodes ⟨f, l⟩).length = (nodes ⟨g, m⟩).length then (if f < 0 ∨ g < 0 then false else if f = g then (if l.length = m.length then gtTs l m else decide (m.length < l.length)) else decide (g < f)) else decide ((nodes ⟨g, m⟩).length < (nodes ⟨f, l⟩).length))
def gtTs : List S30 → List S30 → Bool
  | [], _ => false
  | _ :: _, [] => false
  | x :: l, y :: m => if cmpT x y = 0 then gtTs l m else gtT x y
end
theorem gtTs_drop (l m : List S30) (k : Nat) (hl : k < l.length) (hm : k < m.length) : gtTs (l.drop k) (m.drop k) = if cmpT l[k] m[k] = 0 then gtTs (l.drop (k + 1)) (m.drop (k + 1)) else gtT l[k] m[k] := by
  rw [List.drop_eq_getElem_cons hl, List.drop_eq_getElem_cons hm, gtTs]
def kcmp (a b : S30) : Int := if cmpT a b = 0 then 0 else if gtT a b = true then 1 else if gtT b a = true then -1 else 2
theorem orI2_f (a b : Int) : Ev (fun k => cmp_Or_int.f k [a, b]) (if a = 0 then b else a) := by
  refine ⟨3, fun k hk => ?_⟩
  obtain ⟨n, rfl⟩ : ∃ n, k = n + 3 := ⟨k - 3, by omega⟩
  simp only [cmp_Or_int.f, cmp_Or_int.l0, rd, List.length_cons, List.length_nil, wrap64]
  by_cases ha : a = 0
  · by_cases hb : b = 0
    · simp [ha, hb]
    · simp [ha, hb]
  · simp [ha]
theorem Size_fit {t : S30} (h : fit t) : term_Size.f t.f0 t.f1 = some ((nodes t).length : Int) := Size_is (by have := h.1; omega)
theorem fitB_of {t : S30} (h : fit t) : fitB t = true := (fitB_iff t).2 h
theorem Cov_of {a b : S30} (ha : fit a) (hb : fit b) : kbo_Covers.f a.f0 a.f1 b.f0 b.f1 = some (covT a b) := by
  unfold kbo_Covers.f
  rw [S30.eta, S30.eta, fitB_of ha, fitB_of hb]
  rfl
theorem KGreater_spec : ∀ a b : S30, fit a → fit b → Ev (fun k => kbo_Greater.f k a.f0 a.f1 b.f0 b.f1) (gtT a b) := by
  refine S30.ind ?_
  intro f l ih b ha hb
  obtain ⟨g, m⟩ := b
  have hsa := Size_fit ha
  have hsb := Size_fit hb
  have hcv := Cov_of ha hb
  simp only [] at hsa hsb hcv
  rw [gtT]
  by_cases hc : covT ⟨f, l⟩ ⟨g, m⟩ = true
  · rw [hc, Bool.true_and]
    rw [hc] at hcv
    by_cases hn : (nodes ⟨f, l⟩).length = (nodes ⟨g, m⟩).length
    · rw [if_pos hn]
      have hstep : ∀ k, kbo_Greater.f (k + 1) f l g m = kbo_Greater.j0 k (decide (f < 0 ∨ g < 0)) f l g m := fun k => by
        rw [kbo_Greater.f, hcv]
        simp only [Option.bind_some, if_true, hsa, hsb, cmpI_f]
        rw [hn, cmpI_self, if_pos rfl]
        by_cases hf : f < 0
        · rw [if_pos hf, decide_eq_true (.inl hf)]
        · rw [if_neg hf]
          by_cases hg : g < 0
          · rw [decide_eq_true hg, decide_eq_true (.inr hg)]
          · rw [decide_eq_false hg, decide_eq_false (by omega)]
      refine Ev.step (f := fun k => kbo_Greater.j0 k (decide (f < 0 ∨ g < 0)) f l g m) hstep ?_
      by_cases hv : f < 0 ∨ g < 0
      · rw [if_pos hv, decide_eq_true hv]
        exact Ev.step (f := fun _ => some false) (fun k => by rw [kbo_Greater.j0, if_pos rfl]) (Ev.now _)
      · rw [if_neg hv, decide_eq_false hv]
        refine Ev.step (f := fun k => (cmp_Or_int.f k [cmpI f g, cmpI l.length m.length]).bind fun t => if t = 0 then kbo_Greater.l0 k l (l.length : Int) 0 g m else some (decide (t > 0))) (fun k => by rw [kbo_Greater.j0, if_neg (by decide)]; simp only [cmpI_f, Option.bind_some]) (Ev.bind (orI2_f _ _) ?_)
        by_cases hfg : f = g
        · subst hfg
          rw [if_pos rfl, cmpI_self, if_pos rfl]
          have hf : ¬ f < 0 := fun h => hv (.inl h)
          obtain ⟨hll, hsub⟩ := fit_sub hf ha
          obtain ⟨hml, hsubm⟩ := fit_sub hf hb
          by_cases hlm : l.length = m.length
          · rw [if_pos hlm, hlm, cmpI_self]
            simp only [if_true]
            have key : ∀ n i, l.length - i = n → i ≤ l.length → Ev (fun k => kbo_Greater.l0 k l (m.length : Int) (i : Int) f m) (gtTs (l.drop i) (m.drop i)) := by
              intro n
              induction n with
              | zero =>
                intro i hi hle
                refine Ev.step (f := fun _ => some false) (fun k => by rw [kbo_Greater.l0, if_neg (by omega)]) ?_
                rw [List.drop_of_length_le (by omega), gtTs]; exact Ev.now _
              | succ n ihn =>
                intro i hi hle
                have hlt : i < l.length := by omega
                have hltm : i < m.length := by omega
                have hmem := List.getElem_mem hlt
                refine Ev.step (f := fun k => if (cmpT l[i] m[i] == 0) = true then kbo_Greater.l0 k l (m.length : Int) ((i + 1 : Nat) : Int) f m else (kbo_Greater.f k l[i].f0 l[i].f1 m[i].f0 m[i].f1).bind fun t => some t) (fun k => ?_) ?_
                · rw [kbo_Greater.l0, if_pos (by omega), if_pos (by omega), if_pos (by omega), if_pos (by omega), rdC_at l i hlt, rdC_at m i hltm, wsucc i l.length hlt (by omega), Same_of]
                  rfl
                · rw [gtTs_drop l m i hlt hltm]
                  by_cases h0 : cmpT l[i] m[i] = 0
                  · simp only [h0, beq_self_eq_true, if_true]
                    exact ihn (i + 1) (by omega) (by omega)
                  · rw [if_neg h0]
                    have : (cmpT l[i] m[i] == 0) = false := by simpa using h0
                    simp only [this, Bool.false_eq_true, if_false]
                    exact Ev.bind (ih l[i] hmem m[i] (hsub _ hmem) (hsubm _ (List.getElem_mem hltm))) (Ev.now _)
            have := key l.length 0 rfl (by omega)
            simpa using this
          · rw [if_neg hlm]
            have h1 : cmpI (l.length : Int) m.length ≠ 0 := cmpI_ne (by omega)
            simp only [if_neg h1]
            have : decide (cmpI (l.length : Int) m.length > 0) = decide (m.length < l.length) := by
              rw [decide_eq_decide]
              unfold cmpI
              (repeat' split) <;> omega
            rw [this]; exact Ev.now _
        · rw [if_neg hfg]
          have h1 := cmpI_ne hfg
          simp only [if_neg h1]
          have : decide (cmpI f g > 0) = decide (g < f) := by
            rw [decide_eq_decide]
            unfold cmpI
            (repeat' split) <;> omega
          rw [this]; exact Ev.now _
    · rw [if_neg hn]
      refine Ev.step (f := fun _ => some (decide ((nodes ⟨g, m⟩).length < (nodes ⟨f, l⟩).length))) (fun k => ?_) (Ev.now _)
      rw [kbo_Greater.f, hcv]
      simp only [Option.bind_some, if_true, hsa, hsb, cmpI_f]
      have h1 : cmpI ((nodes ⟨f, l⟩).length : Int) (nodes ⟨g, m⟩).length ≠ 0 := cmpI_ne (by omega)
      rw [if_neg h1]
      congr 1
      rw [decide_eq_decide]
      unfold cmpI
      (repeat' split) <;> omega
  · have hcf : covT ⟨f, l⟩ ⟨g, m⟩ = false := by simpa using hc
    rw [hcf, Bool.false_and]
    rw [hcf] at hcv
    refine Ev.step (f := fun _ => some false) (fun k => ?_) (Ev.now _)
    rw [kbo_Greater.f, hcv]
    rfl
theorem cmp_len : ∀ a b : S30, cmpT a b = 0 → (nodes a).length = (nodes b).length := by
  refine S30.ind ?_
  intro f l ih b h
  obtain ⟨g, m⟩ := b
  have hfg : f = g := by
    rcases Decidable.em (f = g) with e | e
    · exact e
    · exfalso
      have h1 := cmpI_ne e
      have h2 := cmpI_ne (fun e' => e e'.symm)
      simp only [cmpT] at h
      split at h
      · split at h <;> contradiction
      · unfold orI at h; rw [if_neg h1] at h; contradiction
  subst hfg
  by_cases hf : f < 0
  · simp [nodes, hf]
  · have hlm : l.length = m.length := by
      rcases Decidable.em (l.length = m.length) with e | e
      · exact e
      · exfalso
        have h1 : cmpI (l.length : Int) m.length ≠ 0 := cmpI_ne (by omega)
        simp [cmpT, hf, cmpI_self, orI, h1] at h
    have hc : cmpTs l m = 0 := by simpa [cmpT, hf, cmpI_self, hlm, orI] using h
    have key : ∀ (l m : List S30), (∀ x ∈ l, ∀ y, cmpT x y = 0 → (nodes x).length = (nodes y).length) → l.length = m.length → cmpTs l m = 0 → (nodess l).length = (nodess m).length := by
      intro l
      induction l with
      | nil => intro m _ hl _; cases m with
        | nil => rfl
        | cons => simp at hl
      | cons x l ihl =>
        intro m h hl hc
        cases m with
        | nil => simp at hl
        | cons y m =>
          rw [cmpTs] at hc
          split at hc
          · rename_i h0
            rw [nodess, nodess, List.length_append, List.length_append, h x (by simp) y h0, ihl m (fun x hx => h x (by simp [hx])) (by simpa using hl) hc]
          · rename_i h0; contradiction
    have := key l m (fun x hx y => ih x hx y) hlm hc
    simp [nodes, hf, this]
theorem gt_len {a b : S30} (h : gtT a b = true) : (nodes b).length ≤ (nodes a).length := by
  obtain ⟨f, l⟩ := a
  obtain ⟨g, m⟩ := b
  rw [gtT, Bool.and_eq_true] at h
  have h2 := h.2
  split at h2
  · omega
  · have := of_decide_eq_true h2
    omega
theorem gtTs_same : ∀ l m : List S30, cmpTs l m = 0 → gtTs l m = false
  | [], _, _ => by rw [gtTs]
  | _ :: _, [], _ => by rw [gtTs]
  | x :: l, y :: m, h => by
    rw [cmpTs] at h
    split at h
    · rename_i h0
      rw [gtTs, if_pos h0]
      exact gtTs_same l m h
    · rename_i h0; contradiction
theorem cmp_zero {f g : Int} {l m : List S30} (h : cmpT ⟨f, l⟩ ⟨g, m⟩ = 0) : f = g ∧ (¬ f < 0 → l.length = m.length ∧ cmpTs l m = 0) := by
  have hfg : f = g := by
    rcases Decidable.em (f = g) with e | e
    · exact e
    · exfalso
      have h1 := cmpI_ne e
      have h2 := cmpI_ne (fun e' => e e'.symm)
      simp only [cmpT] at h
      split at h
      · split at h <;> contradiction
      · unfold orI at h; rw [if_neg h1] at h; contradiction
  subst hfg
  refine ⟨rfl, fun hf => ?_⟩
  have hlm : l.length = m.length := by
    rcases Decidable.em (l.length = m.length) with e | e
    · exact e
    · exfalso
      have h1 : cmpI (l.length : Int) m.length ≠ 0 := cmpI_ne (by omega)
      simp [cmpT, hf, cmpI_self, orI, h1] at h
  exact ⟨hlm, by simpa [cmpT, hf, cmpI_self, hlm, orI] using h⟩
theorem gt_same {a b : S30} (h : cmpT a b = 0) : gtT a b = false := by
  have hl := cmp_len a b h
  obtain ⟨f, l⟩ := a
  obtain ⟨g, m⟩ := b
  obtain ⟨rfl, h2⟩ := cmp_zero h
  rw [gtT, if_pos hl]
  by_cases hf : f < 0
  · rw [if_pos (.inl hf), Bool.and_false]
  · obtain ⟨h3, h4⟩ := h2 hf
    rw [if_neg (by omega), if_pos rfl, if_pos h3, gtTs_same l m h4, Bool.and_false]
theorem KCompare_spec (a b : S30) (ha : fit a) (hb : fit b) : Ev (fun k => kbo_Compare.f k a.f0 a.f1 b.f0 b.f1) (kcmp a b) := by
  unfold kbo_Compare.f kcmp
  simp only [Same_of, Option.bind_some]
  by_cases h0 : cmpT a b = 0
  · simp only [h0, beq_self_eq_true, if_true]; exact Ev.now _
  · have : (cmpT a b == 0) = false := by simpa using h0
    simp only [this, Bool.false_eq_true, if_false, if_neg h0]
    refine Ev.bind (KGreater_spec a b ha hb) ?_
    by_cases h1 : gtT a b = true
    · simp only [h1, if_true]; exact Ev.now _
    · simp only [if_neg h1]
      refine Ev.bind (KGreater_spec b a hb ha) ?_
      by_cases h2 : gtT b a = true
      · simp only [h2, if_true]; exact Ev.now _
      · simp only [if_neg h2]; exact Ev.now _
theorem fit_of_ok : ∀ t : S30, ok t → (nodes t).length ≤ 1000000 → fit t := by
  have key : ∀ t : S30, ok t → SmallN t := by
    refine S30.ind ?_
    intro f l ih h
    obtain ⟨h1, h2, h3, h4⟩ := h
    have hl : ∀ y ∈ nodess l, -1000000 ≤ y.f0 ∧ y.f0 ≤ 1000000 := by
      have := oks_mem h4
      clear h1 h2 h3 h4
      induction l with
      | nil => intro y hy; cases hy
      | cons x l ihl =>
        intro y hy
        rw [nodess, List.mem_append] at hy
        rcases hy with hy | hy
        · exact ih x (by simp) (this x (by simp)) y hy
        · exact ihl (fun x hx => ih x (by simp [hx])) (fun x hx => this x (by simp [hx])) y hy
    intro y hy
    rw [nodes] at hy
    rcases List.mem_cons.1 hy with rfl | hy
    · exact ⟨by show -1000000 ≤ f; omega, by show f ≤ 1000000; omega⟩
    · split at hy
      · cases hy
      · exact hl y hy
  intro t h hn
  exact ⟨hn, key t h⟩
theorem alive10 : Ev (fun k => soriteslaw10_alive.f k) true := by
  have f1 : fit ⟨4, [⟨-1, []⟩, ⟨1, []⟩]⟩ := fitB_iff _ |>.1 (by decide)
  have f2 : fit ⟨3, [⟨-1, []⟩]⟩ := fitB_iff _ |>.1 (by decide)
  have f3 : fit ⟨-1, []⟩ := fitB_iff _ |>.1 (by decide)
  have f4 : fit ⟨1, []⟩ := fitB_iff _ |>.1 (by decide)
  unfold soriteslaw10_alive.f
  refine Ev.bind (KGreater_spec ⟨4, [⟨-1, []⟩, ⟨1, []⟩]⟩ ⟨3, [⟨-1, []⟩]⟩ f1 f2) ?_
  rw [show gtT ⟨4, [⟨-1, []⟩, ⟨1, []⟩]⟩ ⟨3, [⟨-1, []⟩]⟩ = true by decide]
  simp only [if_true]
  refine Ev.bind (KCompare_spec ⟨-1, []⟩ ⟨1, []⟩ f3 f4) ?_
  rw [show kcmp ⟨-1, []⟩ ⟨1, []⟩ = 2 by decide]
  exact Ev.now _
end Go.Proofs.Ytpfddihcikiofaa.P
end

section
namespace Go.Proofs.Ytpfddihcikiofaa.P
open Go.RowKit Go.Proofs.YtpfddihcikiofaaW.PrintWords Go.Proofs.YtpfddihcikiofaaW.PrintLast Go.Proofs.YtpfddihcikiofaaW.PrintMore
set_option linter.unusedVariables false
set_option linter.unusedSimpArgs false
def NewAt (w0 : World) (cs : Array Value) (t : TypeId) : Told := fun u w => ∃ g, u = .pointer (some ⟨g, 0, none⟩) ∧ w0.heap.size ≤ g ∧ w.heap[g]? = some (.cells cs t (0, 0))
theorem NewAt.grows (w0 : World) (cs : Array Value) (t : TypeId) : (NewAt w0 cs t).grows := fun u w w' h hb => by
  obtain ⟨g, h1, h2, h3⟩ := h
  exact ⟨g, h1, h2, blk_below h3 hb⟩
section
variable {P : Program} {ops : Array Oper} {Q : Exit → Act → World → Prop}
def DetStepN (P : Program) (ops : Array Oper) (Q : Exit → Act → World → Prop) (base : Array Value) (ds : List Deferred) (w0 : World) (rs : List Told) (i : Nat) (o : Oper) (p : Told) (new : Bool) : Prop :=
  ∀ (T : Array Value) (w : World), Below w0.heap.size w0 w →
    (∀ j t p, j < i → (o.after.any fun e => Region.binds .any e && decide (e.on = j)) = true → dstOf ops j = some t → rs[i - 1 - j]? = some p → p (T.getD t undef) w) →
    (∀ t, ((List.range ops.size).all fun j => decide (dstOf ops j ≠ some t)) = true → T.getD t undef = base.getD t undef) →
    ∀ K : Act → World → Prop, (∀ u w2, Below w.heap.size w w2 → p u w2 → (new = true → ∃ g, u = .pointer (some ⟨g, 0, none⟩) ∧ w.heap.size ≤ g) → K ({ tmps := T, defers := ds : Act }.put o.dst u) w2) →
      if Region.wanted o (yielded ops T) = true then Oper.wp P o { tmps := T, defers := ds } w K Q else K ({ tmps := T, defers := ds : Act }.put o.dst undef) w
def DetN (P : Program) (ops : Array Oper) (Q : Exit → Act → World → Prop) (base : Array Value) (ds : List Deferred) (w0 : World) (al : List Nat) (m i : Nat) (rs : List Told) : Prop :=
  rs.length = i → ∃ full : List Told, full.length = m ∧ full.take i = rs.reverse ∧
    (∀ j, i ≤ j → j < m → ∀ o p, ops[j]? = some o → full[j]? = some p → p.grows ∧ (j ∈ al → ∀ u w, p u w → ∃ g, u = .pointer (some ⟨g, 0, none⟩) ∧ g < w.heap.size) ∧ DetStepN P ops Q base ds w0 (full.take j).reverse j o p (decide (j ∈ al))) ∧
    ∀ v w', Below w0.heap.size w0 w' → (∀ (j : Nat) (p : Told), full[j]? = some p → p (v j) w') → (∀ a b, a ∈ al → b ∈ al → a < m → b < m → a ≠ b → v a ≠ v b) → wpAny P .any ops Q (ops.size - m) (firstDone ops.size m) { tmps := layFirst ops m v base, defers := ds } w'
theorem DetN.cons {base : Array Value} {ds : List Deferred} {w0 : World} {al : List Nat} {m i : Nat} {rs : List Told} {o : Oper} (p : Told) (ho : ops[i]? = some o) (him : i < m) (hg : p.grows) (ha : i ∈ al → ∀ u w, p u w → ∃ g, u = .pointer (some ⟨g, 0, none⟩) ∧ g < w.heap.size)
    (h : DetStepN P ops Q base ds w0 rs i o p (decide (i ∈ al))) (hs : DetN P ops Q base ds w0 al m (i + 1) (p :: rs)) : DetN P ops Q base ds w0 al m i rs := fun hl => by
  obtain ⟨full, h1, h2, h3, h4⟩ := hs (by rw [List.length_cons, hl])
  rw [List.reverse_cons] at h2
  have htk : full.take i = rs.reverse := by
    have h5 : full.take i = (full.take (i + 1)).take i := by rw [List.take_take, Nat.min_eq_left (by omega)]
    rw [h5, h2, List.take_append_of_le_length (by rw [List.length_reverse]; omega), List.take_of_length_le (by rw [List.length_reverse]; omega)]
  refine ⟨full, h1, htk, fun j hj hjm o' p' ho' hp' => ?_, h4⟩
  rcases Nat.lt_or_ge i j with hlt | hge
  · exact h3 j hlt hjm o' p' ho' hp'
  · have hji : j = i := by omega
    subst hji
    rw [ho] at ho'
    injection ho' with ho'
    subst ho'
    have h5 : full[j]? = some p := by
      have h6 : (full.take (j + 1))[j]? = (rs.reverse ++ [p])[j]? := by rw [h2]
      rw [List.getElem?_take_of_lt (by omega), List.getElem?_append_right (by rw [List.length_reverse]; omega)] at h6
      rw [h6]
      simp [hl]
    rw [h5] at hp'
    injection hp' with hp'
    subst hp'
    rw [htk, List.reverse_reverse]
    exact ⟨hg, ha, h⟩
theorem DetN.is {base : Array Value} {ds : List Deferred} {w0 : World} {al : List Nat} {m i : Nat} {rs : List Told} {o : Oper} {u : Value} (ho : ops[i]? = some o) (him : i < m) (ha : i ∉ al)
    (h : ∀ (T : Array Value) (w : World), Below w0.heap.size w0 w →
      (∀ j t p, j < i → (o.after.any fun e => Region.binds .any e && decide (e.on = j)) = true → dstOf ops j = some t → rs[i - 1 - j]? = some p → p (T.getD t undef) w) →
      (∀ t, ((List.range ops.size).all fun j => decide (dstOf ops j ≠ some t)) = true → T.getD t undef = base.getD t undef) →
      ∀ K : Act → World → Prop, (∀ w2, Below w.heap.size w w2 → K ({ tmps := T, defers := ds : Act }.put o.dst u) w2) →
        if Region.wanted o (yielded ops T) = true then Oper.wp P o { tmps := T, defers := ds } w K Q else K ({ tmps := T, defers := ds : Act }.put o.dst undef) w)
    (hs : DetN P ops Q base ds w0 al m (i + 1) (Told.is u :: rs)) : DetN P ops Q base ds w0 al m i rs :=
  DetN.cons (Told.is u) ho him (Told.is_grows u) (fun hc => absurd hc ha) (fun T w hb hd hB K hK => h T w hb hd hB K (fun w2 h2 => hK u w2 h2 rfl (fun hc => absurd (of_decide_eq_true hc) ha))) hs
end
end Go.Proofs.Ytpfddihcikiofaa.P
end

section
namespace Go.Proofs.Ytpfddihcikiofaa.P
open Go.RowKit Go.Proofs.YtpfddihcikiofaaW.PrintWords Go.Proofs.YtpfddihcikiofaaW.PrintLast Go.Proofs.YtpfddihcikiofaaW.PrintMore
set_option linter.unusedVariables false
set_option linter.unusedSimpArgs false
theorem wanted_undef {o : Oper} {ops : Array Oper} {T : Array Value} (j : Nat) (t : Tmp) {want : Bool} (hg : o.guard = some (j, want)) (hd : dstOf ops j = some t) (he : T.getD t undef = undef) : ¬ Region.wanted o (yielded ops T) = true := by
  unfold Region.wanted
  rw [hg]
  simp only [yielded]
  rw [show ((ops[j]?).bind (·.dst)) = some t from hd]
  simp only [Option.bind_some]
  rw [Array.getD_eq_getD_getElem?] at he
  cases hx : T[t]? with
  | none => cases want <;> decide
  | some x =>
    rw [hx] at he
    simp at he
    rw [he]
    cases want <;> decide
set_option maxHeartbeats 4000000 in
set_option maxRecDepth 100000 in
theorem KboSizes_r7tt {id : Nat} {a : Act} {w : World} {Q : Exit → Act → World → Prop} {ga gb nx ny : Nat} {xf xl yf yl : Value}
    (hr : regionOk #[{ dst := some 26, op := Op.move (Operand.tmp 9), type := 4, pos := "law.go:102", after := #[], guard := none }, { dst := some 27, op := Op.move (Operand.tmp 26), type := 4, pos := "law.go:102", after := #[{ on := 0, ground := Ground.data }], guard := none }, { dst := some 28, op := Op.load 30 (Operand.tmp 7), type := 30, pos := "law.go:102", after := #[{ on := 1, ground := Ground.guard }], guard := some (1, true) }, { dst := some 29, op := Op.call { callee := Callee.value (Operand.func 34), args := #[Operand.tmp 28], argTypes := #[30] }, type := 3, pos := "law.go:102", after := #[{ on := 2, ground := Ground.data }, { on := 1, ground := Ground.chain }, { on := 1, ground := Ground.guard }], guard := some (1, true) }, { dst := some 30, op := Op.load 30 (Operand.tmp 8), type := 30, pos := "law.go:102", after := #[{ on := 1, ground := Ground.guard }], guard := some (1, true) }, { dst := some 31, op := Op.call { callee := Callee.value (Operand.func 34), args := #[Operand.tmp 30], argTypes := #[30] }, type := 3, pos := "law.go:102", after := #[{ on := 4, ground := Ground.data }, { on := 3, ground := Ground.chain }, { on := 1, ground := Ground.guard }], guard := some (1, true) }, { dst := some 32, op := Op.binOp BinOp.lss 3 (Operand.tmp 29) (Operand.tmp 31) 3, type := 4, pos := "law.go:102", after := #[{ on := 3, ground := Ground.data }, { on := 5, ground := Ground.data }, { on := 1, ground := Ground.guard }], guard := some (1, true) }, { dst := some 33, op := Op.move (Operand.tmp 32), type := 4, pos := "law.go:102", after := #[{ on := 6, ground := Ground.data }, { on := 5, ground := Ground.chain }, { on := 1, ground := Ground.guard }], guard := some (1, true) }, { dst := some 34, op := Op.load 30 (Operand.tmp 7), type := 30, pos := "law.go:102", after := #[{ on := 7, ground := Ground.guard }], guard := some (7, false) }, { dst := some 35, op := Op.load 30 (Operand.tmp 8), type := 30, pos := "law.go:102", after := #[{ on := 7, ground := Ground.guard }], guard := some (7, false) }, { dst := some 36, op := Op.call { callee := Callee.value (Operand.func 45), args := #[Operand.tmp 34, Operand.tmp 35], argTypes := #[30, 30] }, type := 4, pos := "law.go:102", after := #[{ on := 8, ground := Ground.data }, { on := 9, ground := Ground.data }, { on := 7, ground := Ground.chain }, { on := 7, ground := Ground.guard }], guard := some (7, false) }, { dst := some 37, op := Op.unOp UnOp.not 4 (Operand.tmp 36), type := 4, pos := "law.go:102", after := #[{ on := 10, ground := Ground.data }, { on := 7, ground := Ground.guard }], guard := some (7, false) }, { dst := some 38, op := Op.pick (Operand.tmp 33) (Operand.const (Value.bool true)) (Operand.tmp 37), type := 4, pos := "law.go:102", after := #[{ on := 7, ground := Ground.data }, { on := 11, ground := Ground.data }, { on := 1, ground := Ground.guard }], guard := some (1, true) }, { dst := some 39, op := Op.pick (Operand.tmp 27) (Operand.tmp 38) (Operand.const (Value.bool false)), type := 4, pos := "law.go:102", after := #[{ on := 1, ground := Ground.data }, { on := 12, ground := Ground.data }], guard := none }, { dst := some 40, op := Op.move (Operand.tmp 39), type := 4, pos := "law.go:102", after := #[{ on := 13, ground := Ground.data }, { on := 10, ground := Ground.chain }], guard := none }, { dst := some 41, op := Op.move (Operand.tmp 9), type := 4, pos := "law.go:102", after := #[{ on := 14, ground := Ground.guard }], guard := some (14, false) }, { dst := some 42, op := Op.unOp UnOp.not 4 (Operand.tmp 41), type := 4, pos := "law.go:102", after := #[{ on := 15, ground := Ground.data }, { on := 14, ground := Ground.guard }], guard := some (14, false) }, { dst := some 43, op := Op.move (Operand.tmp 42), type := 4, pos := "law.go:102", after := #[{ on := 16, ground := Ground.data }, { on := 14, ground := Ground.chain }, { on := 14, ground := Ground.guard }], guard := some (14, false) }, { dst := some 44, op := Op.load 30 (Operand.tmp 7), type := 30, pos := "law.go:102", after := #[{ on := 17, ground := Ground.guard }], guard := some (17, true) }, { dst := some 45, op := Op.load 30 (Operand.tmp 8), type := 30, pos := "law.go:102", after := #[{ on := 17, ground := Ground.guard }], guard := some (17, true) }, { dst := some 46, op := Op.call { callee := Callee.value (Operand.func 45), args := #[Operand.tmp 44, Operand.tmp 45], argTypes := #[30, 30] }, type := 4, pos := "law.go:102", after := #[{ on := 18, ground := Ground.data }, { on := 19, ground := Ground.data }, { on := 17, ground := Ground.chain }, { on := 17, ground := Ground.guard }], guard := some (17, true) }, { dst := some 47, op := Op.pick (Operand.tmp 43) (Operand.tmp 46) (Operand.const (Value.bool false)), type := 4, pos := "law.go:102", after := #[{ on := 17, ground := Ground.data }, { on := 20, ground := Ground.data }, { on := 14, ground := Ground.guard }], guard := some (14, false) }, { dst := some 48, op := Op.move (Operand.tmp 47), type := 4, pos := "law.go:102", after := #[{ on := 21, ground := Ground.data }, { on := 20, ground := Ground.chain }, { on := 14, ground := Ground.guard }], guard := some (14, false) }, { dst := some 49, op := Op.load 30 (Operand.tmp 7), type := 30, pos := "law.go:102", after := #[{ on := 22, ground := Ground.guard }], guard := some (22, true) }, { dst := some 50, op := Op.call { callee := Callee.value (Operand.func 34), args := #[Operand.tmp 49], argTypes := #[30] }, type := 3, pos := "law.go:102", after := #[{ on := 23, ground := Ground.data }, { on := 22, ground := Ground.chain }, { on := 22, ground := Ground.guard }], guard := some (22, true) }, { dst := some 51, op := Op.load 30 (Operand.tmp 8), type := 30, pos := "law.go:102", after := #[{ on := 22, ground := Ground.guard }], guard := some (22, true) }, { dst := some 52, op := Op.call { callee := Callee.value (Operand.func 34), args := #[Operand.tmp 51], argTypes := #[30] }, type := 3, pos := "law.go:102", after := #[{ on := 25, ground := Ground.data }, { on := 24, ground := Ground.chain }, { on := 22, ground := Ground.guard }], guard := some (22, true) }, { dst := some 53, op := Op.binOp BinOp.gtr 3 (Operand.tmp 50) (Operand.tmp 52) 3, type := 4, pos := "law.go:102", after := #[{ on := 24, ground := Ground.data }, { on := 26, ground := Ground.data }, { on := 22, ground := Ground.guard }], guard := some (22, true) }, { dst := some 54, op := Op.pick (Operand.tmp 48) (Operand.tmp 53) (Operand.const (Value.bool false)), type := 4, pos := "law.go:102", after := #[{ on := 22, ground := Ground.data }, { on := 27, ground := Ground.data }, { on := 14, ground := Ground.guard }], guard := some (14, false) }, { dst := some 55, op := Op.pick (Operand.tmp 40) (Operand.const (Value.bool true)) (Operand.tmp 54), type := 4, pos := "law.go:102", after := #[{ on := 14, ground := Ground.data }, { on := 28, ground := Ground.data }], guard := none }] a.tmps.size = true)
    (hT9 : a.tmps.getD 9 undef = .bool true)
    (hT7 : a.tmps.getD 7 undef = .pointer (some ⟨ga, 0, none⟩)) (hX7 : w.heap[ga]? = some (.cells #[xf, xl] 30 (0, 0)))
    (hT8 : a.tmps.getD 8 undef = .pointer (some ⟨gb, 0, none⟩)) (hX8 : w.heap[gb]? = some (.cells #[yf, yl] 30 (0, 0)))
    (hF3 : ∀ w1, Below w.heap.size w w1 → Calls Try.prog 34 #[.agg #[xf, xl]] w1 fun e w2 => e = .returned (.int .i64 (nx : Int)) ∧ Below w1.heap.size w1 w2)
    (hF5 : ∀ w1, Below w.heap.size w w1 → Calls Try.prog 34 #[.agg #[yf, yl]] w1 fun e w2 => e = .returned (.int .i64 (ny : Int)) ∧ Below w1.heap.size w1 w2)
    (hF10 : ∀ w1, Below w.heap.size w w1 → Calls Try.prog 45 #[.agg #[xf, xl], .agg #[yf, yl]] w1 fun e w2 => e = .returned (.bool true) ∧ Below w1.heap.size w1 w2)
    (hn : ny ≤ nx)
    (hK : ∀ v w', Below w.heap.size w w' → v 29 = .bool false → Q .normal { tmps := layL [some 26, some 27, some 28, some 29, some 30, some 31, some 32, some 33, some 34, some 35, some 36, some 37, some 38, some 39, some 40, some 41, some 42, some 43, some 44, some 45, some 46, some 47, some 48, some 49, some 50, some 51, some 52, some 53, some 54, some 55] 0 v a.tmps, defers := a.defers } w') :
    (Code.region id #[{ dst := some 26, op := Op.move (Operand.tmp 9), type := 4, pos := "law.go:102", after := #[], guard := none }, { dst := some 27, op := Op.move (Operand.tmp 26), type := 4, pos := "law.go:102", after := #[{ on := 0, ground := Ground.data }], guard := none }, { dst := some 28, op := Op.load 30 (Operand.tmp 7), type := 30, pos := "law.go:102", after := #[{ on := 1, ground := Ground.guard }], guard := some (1, true) }, { dst := some 29, op := Op.call { callee := Callee.value (Operand.func 34), args := #[Operand.tmp 28], argTypes := #[30] }, type := 3, pos := "law.go:102", after := #[{ on := 2, ground := Ground.data }, { on := 1, ground := Ground.chain }, { on := 1, ground := Ground.guard }], guard := some (1, true) }, { dst := some 30, op := Op.load 30 (Operand.tmp 8), type := 30, pos := "law.go:102", after := #[{ on := 1, ground := Ground.guard }], guard := some (1, true) }, { dst := some 31, op := Op.call { callee := Callee.value (Operand.func 34), args := #[Operand.tmp 30], argTypes := #[30] }, type := 3, pos := "law.go:102", after := #[{ on := 4, ground := Ground.data }, { on := 3, ground := Ground.chain }, { on := 1, ground := Ground.guard }], guard := some (1, true) }, { dst := some 32, op := Op.binOp BinOp.lss 3 (Operand.tmp 29) (Operand.tmp 31) 3, type := 4, pos := "law.go:102", after := #[{ on := 3, ground := Ground.data }, { on := 5, ground := Ground.data }, { on := 1, ground := Ground.guard }], guard := some (1, true) }, { dst := some 33, op := Op.move (Operand.tmp 32), type := 4, pos := "law.go:102", after := #[{ on := 6, ground := Ground.data }, { on := 5, ground := Ground.chain }, { on := 1, ground := Ground.guard }], guard := some (1, true) }, { dst := some 34, op := Op.load 30 (Operand.tmp 7), type := 30, pos := "law.go:102", after := #[{ on := 7, ground := Ground.guard }], guard := some (7, false) }, { dst := some 35, op := Op.load 30 (Operand.tmp 8), type := 30, pos := "law.go:102", after := #[{ on := 7, ground := Ground.guard }], guard := some (7, false) }, { dst := some 36, op := Op.call { callee := Callee.value (Operand.func 45), args := #[Operand.tmp 34, Operand.tmp 35], argTypes := #[30, 30] }, type := 4, pos := "law.go:102", after := #[{ on := 8, ground := Ground.data }, { on := 9, ground := Ground.data }, { on := 7, ground := Ground.chain }, { on := 7, ground := Ground.guard }], guard := some (7, false) }, { dst := some 37, op := Op.unOp UnOp.not 4 (Operand.tmp 36), type := 4, pos := "law.go:102", after := #[{ on := 10, ground := Ground.data }, { on := 7, ground := Ground.guard }], guard := some (7, false) }, { dst := some 38, op := Op.pick (Operand.tmp 33) (Operand.const (Value.bool true)) (Operand.tmp 37), type := 4, pos := "law.go:102", after := #[{ on := 7, ground := Ground.data }, { on := 11, ground := Ground.data }, { on := 1, ground := Ground.guard }], guard := some (1, true) }, { dst := some 39, op := Op.pick (Operand.tmp 27) (Operand.tmp 38) (Operand.const (Value.bool false)), type := 4, pos := "law.go:102", after := #[{ on := 1, ground := Ground.data }, { on := 12, ground := Ground.data }], guard := none }, { dst := some 40, op := Op.move (Operand.tmp 39), type := 4, pos := "law.go:102", after := #[{ on := 13, ground := Ground.data }, { on := 10, ground := Ground.chain }], guard := none }, { dst := some 41, op := Op.move (Operand.tmp 9), type := 4, pos := "law.go:102", after := #[{ on := 14, ground := Ground.guard }], guard := some (14, false) }, { dst := some 42, op := Op.unOp UnOp.not 4 (Operand.tmp 41), type := 4, pos := "law.go:102", after := #[{ on := 15, ground := Ground.data }, { on := 14, ground := Ground.guard }], guard := some (14, false) }, { dst := some 43, op := Op.move (Operand.tmp 42), type := 4, pos := "law.go:102", after := #[{ on := 16, ground := Ground.data }, { on := 14, ground := Ground.chain }, { on := 14, ground := Ground.guard }], guard := some (14, false) }, { dst := some 44, op := Op.load 30 (Operand.tmp 7), type := 30, pos := "law.go:102", after := #[{ on := 17, ground := Ground.guard }], guard := some (17, true) }, { dst := some 45, op := Op.load 30 (Operand.tmp 8), type := 30, pos := "law.go:102", after := #[{ on := 17, ground := Ground.guard }], guard := some (17, true) }, { dst := some 46, op := Op.call { callee := Callee.value (Operand.func 45), args := #[Operand.tmp 44, Operand.tmp 45], argTypes := #[30, 30] }, type := 4, pos := "law.go:102", after := #[{ on := 18, ground := Ground.data }, { on := 19, ground := Ground.data }, { on := 17, ground := Ground.chain }, { on := 17, ground := Ground.guard }], guard := some (17, true) }, { dst := some 47, op := Op.pick (Operand.tmp 43) (Operand.tmp 46) (Operand.const (Value.bool false)), type := 4, pos := "law.go:102", after := #[{ on := 17, ground := Ground.data }, { on := 20, ground := Ground.data }, { on := 14, ground := Ground.guard }], guard := some (14, false) }, { dst := some 48, op := Op.move (Operand.tmp 47), type := 4, pos := "law.go:102", after := #[{ on := 21, ground := Ground.data }, { on := 20, ground := Ground.chain }, { on := 14, ground := Ground.guard }], guard := some (14, false) }, { dst := some 49, op := Op.load 30 (Operand.tmp 7), type := 30, pos := "law.go:102", after := #[{ on := 22, ground := Ground.guard }], guard := some (22, true) }, { dst := some 50, op := Op.call { callee := Callee.value (Operand.func 34), args := #[Operand.tmp 49], argTypes := #[30] }, type := 3, pos := "law.go:102", after := #[{ on := 23, ground := Ground.data }, { on := 22, ground := Ground.chain }, { on := 22, ground := Ground.guard }], guard := some (22, true) }, { dst := some 51, op := Op.load 30 (Operand.tmp 8), type := 30, pos := "law.go:102", after := #[{ on := 22, ground := Ground.guard }], guard := some (22, true) }, { dst := some 52, op := Op.call { callee := Callee.value (Operand.func 34), args := #[Operand.tmp 51], argTypes := #[30] }, type := 3, pos := "law.go:102", after := #[{ on := 25, ground := Ground.data }, { on := 24, ground := Ground.chain }, { on := 22, ground := Ground.guard }], guard := some (22, true) }, { dst := some 53, op := Op.binOp BinOp.gtr 3 (Operand.tmp 50) (Operand.tmp 52) 3, type := 4, pos := "law.go:102", after := #[{ on := 24, ground := Ground.data }, { on := 26, ground := Ground.data }, { on := 22, ground := Ground.guard }], guard := some (22, true) }, { dst := some 54, op := Op.pick (Operand.tmp 48) (Operand.tmp 53) (Operand.const (Value.bool false)), type := 4, pos := "law.go:102", after := #[{ on := 22, ground := Ground.data }, { on := 27, ground := Ground.data }, { on := 14, ground := Ground.guard }], guard := some (14, false) }, { dst := some 55, op := Op.pick (Operand.tmp 40) (Operand.const (Value.bool true)) (Operand.tmp 54), type := 4, pos := "law.go:102", after := #[{ on := 14, ground := Ground.data }, { on := 28, ground := Ground.data }], guard := none }] true).wp Try.prog Q a w := by
  have hmx : Try.prog.follows .mixedOrders = true := by kernel_rfl
  refine region_detR 30 hmx hr (by kernel_rfl) ?_
  refine DetR.is (o := { dst := some 26, op := Op.move (Operand.tmp 9), type := 4, pos := "law.go:102", after := #[], guard := none }) (u := ?ux1) rfl (by decide) (fun T w' hb hd hB K hK => ?sx1) ?rx1
  case sx1 =>
    have e9 := (hB 9 (by kernel_rfl)).trans hT9
    rw [if_pos (wanted_none _ rfl)]
    clear hd hB
    go_simp
    exact hK _ (Below.refl _ _)
  refine DetR.is (o := { dst := some 27, op := Op.move (Operand.tmp 26), type := 4, pos := "law.go:102", after := #[{ on := 0, ground := Ground.data }], guard := none }) (u := .bool true) rfl (by decide) (fun T w' hb hd hB K hK => ?sx2) ?rx2
  case sx2 =>
    have e26 := hd 0 26 _ (by decide) (by kernel_rfl) rfl rfl
    replace e26 : T.getD 26 undef = _ := e26
    rw [if_pos (wanted_none _ rfl)]
    clear hd hB
    go_simp
    exact hK _ (Below.refl _ _)
  refine DetR.is (o := { dst := some 28, op := Op.load 30 (Operand.tmp 7), type := 30, pos := "law.go:102", after := #[{ on := 1, ground := Ground.guard }], guard := some (1, true) }) (u := ?ux3) rfl (by decide) (fun T w' hb hd hB K hK => ?sx3) ?rx3
  case sx3 =>
    have e7 := (hB 7 (by kernel_rfl)).trans hT7
    have q7_0 : w'.cell? ⟨ga, 0, none⟩ = some (xf) := (blk_cell (blk_below hX7 hb) 0).trans rfl
    have q7_1 : w'.cell? ⟨ga, 1, none⟩ = some (xl) := (blk_cell (blk_below hX7 hb) 1).trans rfl
    have eg := hd 1 27 _ (by decide) (by kernel_rfl) rfl rfl
    replace eg : T.getD 27 undef = .bool true := eg
    rw [if_pos (wanted_yes 1 27 true rfl rfl eg)]
    clear eg
    clear hd hB
    go_simp
    exact hK _ (Below.refl _ _)
  refine DetR.is (o := { dst := some 29, op := Op.call { callee := Callee.value (Operand.func 34), args := #[Operand.tmp 28], argTypes := #[30] }, type := 3, pos := "law.go:102", after := #[{ on := 2, ground := Ground.data }, { on := 1, ground := Ground.chain }, { on := 1, ground := Ground.guard }], guard := some (1, true) }) (u := ?ux4) rfl (by decide) (fun T w' hb hd hB K hK => ?sx4) ?rx4
  case sx4 =>
    have e28 := hd 2 28 _ (by decide) (by kernel_rfl) rfl rfl
    replace e28 : T.getD 28 undef = _ := e28
    have eg := hd 1 27 _ (by decide) (by kernel_rfl) rfl rfl
    replace eg : T.getD 27 undef = .bool true := eg
    rw [if_pos (wanted_yes 1 27 true rfl rfl eg)]
    clear eg
    have hcl := hF3 w' hb
    clear hd hB
    go_simp
    go_at_call 34
    refine hcl.mono ?_
    rintro e w2 ⟨rfl, h2⟩
    exact hK _ h2
  refine DetR.is (o := { dst := some 30, op := Op.load 30 (Operand.tmp 8), type := 30, pos := "law.go:102", after := #[{ on := 1, ground := Ground.guard }], guard := some (1, true) }) (u := ?ux5) rfl (by decide) (fun T w' hb hd hB K hK => ?sx5) ?rx5
  case sx5 =>
    have e8 := (hB 8 (by kernel_rfl)).trans hT8
    have q8_0 : w'.cell? ⟨gb, 0, none⟩ = some (yf) := (blk_cell (blk_below hX8 hb) 0).trans rfl
    have q8_1 : w'.cell? ⟨gb, 1, none⟩ = some (yl) := (blk_cell (blk_below hX8 hb) 1).trans rfl
    have eg := hd 1 27 _ (by decide) (by kernel_rfl) rfl rfl
    replace eg : T.getD 27 undef = .bool true := eg
    rw [if_pos (wanted_yes 1 27 true rfl rfl eg)]
    clear eg
    clear hd hB
    go_simp
    exact hK _ (Below.refl _ _)
  refine DetR.is (o := { dst := some 31, op := Op.call { callee := Callee.value (Operand.func 34), args := #[Operand.tmp 30], argTypes := #[30] }, type := 3, pos := "law.go:102", after := #[{ on := 4, ground := Ground.data }, { on := 3, ground := Ground.chain }, { on := 1, ground := Ground.guard }], guard := some (1, true) }) (u := ?ux6) rfl (by decide) (fun T w' hb hd hB K hK => ?sx6) ?rx6
  case sx6 =>
    have e30 := hd 4 30 _ (by decide) (by kernel_rfl) rfl rfl
    replace e30 : T.getD 30 undef = _ := e30
    have eg := hd 1 27 _ (by decide) (by kernel_rfl) rfl rfl
    replace eg : T.getD 27 undef = .bool true := eg
    rw [if_pos (wanted_yes 1 27 true rfl rfl eg)]
    clear eg
    have hcl := hF5 w' hb
    clear hd hB
    go_simp
    go_at_call 34
    refine hcl.mono ?_
    rintro e w2 ⟨rfl, h2⟩
    exact hK _ h2
  refine DetR.is (o := { dst := some 32, op := Op.binOp BinOp.lss 3 (Operand.tmp 29) (Operand.tmp 31) 3, type := 4, pos := "law.go:102", after := #[{ on := 3, ground := Ground.data }, { on := 5, ground := Ground.data }, { on := 1, ground := Ground.guard }], guard := some (1, true) }) (u := .bool false) rfl (by decide) (fun T w' hb hd hB K hK => ?sx7) ?rx7
  case sx7 =>
    have e29 := hd 3 29 _ (by decide) (by kernel_rfl) rfl rfl
    replace e29 : T.getD 29 undef = _ := e29
    have e31 := hd 5 31 _ (by decide) (by kernel_rfl) rfl rfl
    replace e31 : T.getD 31 undef = _ := e31
    have eg := hd 1 27 _ (by decide) (by kernel_rfl) rfl rfl
    replace eg : T.getD 27 undef = .bool true := eg
    rw [if_pos (wanted_yes 1 27 true rfl rfl eg)]
    clear eg
    clear hd hB
    go_simp
    have hq : decide (nx < ny) = false := decide_eq_false (by omega)
    try rw [hq]
    exact hK _ (Below.refl _ _)
  refine DetR.is (o := { dst := some 33, op := Op.move (Operand.tmp 32), type := 4, pos := "law.go:102", after := #[{ on := 6, ground := Ground.data }, { on := 5, ground := Ground.chain }, { on := 1, ground := Ground.guard }], guard := some (1, true) }) (u := .bool false) rfl (by decide) (fun T w' hb hd hB K hK => ?sx8) ?rx8
  case sx8 =>
    have e32 := hd 6 32 _ (by decide) (by kernel_rfl) rfl rfl
    replace e32 : T.getD 32 undef = _ := e32
    have eg := hd 1 27 _ (by decide) (by kernel_rfl) rfl rfl
    replace eg : T.getD 27 undef = .bool true := eg
    rw [if_pos (wanted_yes 1 27 true rfl rfl eg)]
    clear eg
    clear hd hB
    go_simp
    exact hK _ (Below.refl _ _)
  refine DetR.is (o := { dst := some 34, op := Op.load 30 (Operand.tmp 7), type := 30, pos := "law.go:102", after := #[{ on := 7, ground := Ground.guard }], guard := some (7, false) }) (u := ?ux9) rfl (by decide) (fun T w' hb hd hB K hK => ?sx9) ?rx9
  case sx9 =>
    have e7 := (hB 7 (by kernel_rfl)).trans hT7
    have q7_0 : w'.cell? ⟨ga, 0, none⟩ = some (xf) := (blk_cell (blk_below hX7 hb) 0).trans rfl
    have q7_1 : w'.cell? ⟨ga, 1, none⟩ = some (xl) := (blk_cell (blk_below hX7 hb) 1).trans rfl
    have eg := hd 7 33 _ (by decide) (by kernel_rfl) rfl rfl
    replace eg : T.getD 33 undef = .bool false := eg
    rw [if_pos (wanted_yes 7 33 false rfl rfl eg)]
    clear eg
    clear hd hB
    go_simp
    exact hK _ (Below.refl _ _)
  refine DetR.is (o := { dst := some 35, op := Op.load 30 (Operand.tmp 8), type := 30, pos := "law.go:102", after := #[{ on := 7, ground := Ground.guard }], guard := some (7, false) }) (u := ?ux10) rfl (by decide) (fun T w' hb hd hB K hK => ?sx10) ?rx10
  case sx10 =>
    have e8 := (hB 8 (by kernel_rfl)).trans hT8
    have q8_0 : w'.cell? ⟨gb, 0, none⟩ = some (yf) := (blk_cell (blk_below hX8 hb) 0).trans rfl
    have q8_1 : w'.cell? ⟨gb, 1, none⟩ = some (yl) := (blk_cell (blk_below hX8 hb) 1).trans rfl
    have eg := hd 7 33 _ (by decide) (by kernel_rfl) rfl rfl
    replace eg : T.getD 33 undef = .bool false := eg
    rw [if_pos (wanted_yes 7 33 false rfl rfl eg)]
    clear eg
    clear hd hB
    go_simp
    exact hK _ (Below.refl _ _)
  refine DetR.is (o := { dst := some 36, op := Op.call { callee := Callee.value (Operand.func 45), args := #[Operand.tmp 34, Operand.tmp 35], argTypes := #[30, 30] }, type := 4, pos := "law.go:102", after := #[{ on := 8, ground := Ground.data }, { on := 9, ground := Ground.data }, { on := 7, ground := Ground.chain }, { on := 7, ground := Ground.guard }], guard := some (7, false) }) (u := ?ux11) rfl (by decide) (fun T w' hb hd hB K hK => ?sx11) ?rx11
  case sx11 =>
    have e34 := hd 8 34 _ (by decide) (by kernel_rfl) rfl rfl
    replace e34 : T.getD 34 undef = _ := e34
    have e35 := hd 9 35 _ (by decide) (by kernel_rfl) rfl rfl
    replace e35 : T.getD 35 undef = _ := e35
    have eg := hd 7 33 _ (by decide) (by kernel_rfl) rfl rfl
    replace eg : T.getD 33 undef = .bool false := eg
    rw [if_pos (wanted_yes 7 33 false rfl rfl eg)]
    clear eg
    have hcl := hF10 w' hb
    clear hd hB
    go_simp
    go_at_call 45
    refine hcl.mono ?_
    rintro e w2 ⟨rfl, h2⟩
    exact hK _ h2
  refine DetR.is (o := { dst := some 37, op := Op.unOp UnOp.not 4 (Operand.tmp 36), type := 4, pos := "law.go:102", after := #[{ on := 10, ground := Ground.data }, { on := 7, ground := Ground.guard }], guard := some (7, false) }) (u := .bool false) rfl (by decide) (fun T w' hb hd hB K hK => ?sx12) ?rx12
  case sx12 =>
    have e36 := hd 10 36 _ (by decide) (by kernel_rfl) rfl rfl
    replace e36 : T.getD 36 undef = _ := e36
    have eg := hd 7 33 _ (by decide) (by kernel_rfl) rfl rfl
    replace eg : T.getD 33 undef = .bool false := eg
    rw [if_pos (wanted_yes 7 33 false rfl rfl eg)]
    clear eg
    clear hd hB
    go_simp
    exact hK _ (Below.refl _ _)
  refine DetR.is (o := { dst := some 38, op := Op.pick (Operand.tmp 33) (Operand.const (Value.bool true)) (Operand.tmp 37), type := 4, pos := "law.go:102", after := #[{ on := 7, ground := Ground.data }, { on := 11, ground := Ground.data }, { on := 1, ground := Ground.guard }], guard := some (1, true) }) (u := .bool false) rfl (by decide) (fun T w' hb hd hB K hK => ?sx13) ?rx13
  case sx13 =>
    have e33 := hd 7 33 _ (by decide) (by kernel_rfl) rfl rfl
    replace e33 : T.getD 33 undef = _ := e33
    have e37 := hd 11 37 _ (by decide) (by kernel_rfl) rfl rfl
    replace e37 : T.getD 37 undef = _ := e37
    have eg := hd 1 27 _ (by decide) (by kernel_rfl) rfl rfl
    replace eg : T.getD 27 undef = .bool true := eg
    rw [if_pos (wanted_yes 1 27 true rfl rfl eg)]
    clear eg
    clear hd hB
    go_simp
    exact hK _ (Below.refl _ _)
  refine DetR.is (o := { dst := some 39, op := Op.pick (Operand.tmp 27) (Operand.tmp 38) (Operand.const (Value.bool false)), type := 4, pos := "law.go:102", after := #[{ on := 1, ground := Ground.data }, { on := 12, ground := Ground.data }], guard := none }) (u := .bool false) rfl (by decide) (fun T w' hb hd hB K hK => ?sx14) ?rx14
  case sx14 =>
    have e27 := hd 1 27 _ (by decide) (by kernel_rfl) rfl rfl
    replace e27 : T.getD 27 undef = _ := e27
    have e38 := hd 12 38 _ (by decide) (by kernel_rfl) rfl rfl
    replace e38 : T.getD 38 undef = _ := e38
    rw [if_pos (wanted_none _ rfl)]
    clear hd hB
    go_simp
    exact hK _ (Below.refl _ _)
  refine DetR.is (o := { dst := some 40, op := Op.move (Operand.tmp 39), type := 4, pos := "law.go:102", after := #[{ on := 13, ground := Ground.data }, { on := 10, ground := Ground.chain }], guard := none }) (u := .bool false) rfl (by decide) (fun T w' hb hd hB K hK => ?sx15) ?rx15
  case sx15 =>
    have e39 := hd 13 39 _ (by decide) (by kernel_rfl) rfl rfl
    replace e39 : T.getD 39 undef = _ := e39
    rw [if_pos (wanted_none _ rfl)]
    clear hd hB
    go_simp
    exact hK _ (Below.refl _ _)
  refine DetR.is (o := { dst := some 41, op := Op.move (Operand.tmp 9), type := 4, pos := "law.go:102", after := #[{ on := 14, ground := Ground.guard }], guard := some (14, false) }) (u := ?ux16) rfl (by decide) (fun T w' hb hd hB K hK => ?sx16) ?rx16
  case sx16 =>
    have e9 := (hB 9 (by kernel_rfl)).trans hT9
    have eg := hd 14 40 _ (by decide) (by kernel_rfl) rfl rfl
    replace eg : T.getD 40 undef = .bool false := eg
    rw [if_pos (wanted_yes 14 40 false rfl rfl eg)]
    clear eg
    clear hd hB
    go_simp
    exact hK _ (Below.refl _ _)
  refine DetR.is (o := { dst := some 42, op := Op.unOp UnOp.not 4 (Operand.tmp 41), type := 4, pos := "law.go:102", after := #[{ on := 15, ground := Ground.data }, { on := 14, ground := Ground.guard }], guard := some (14, false) }) (u := .bool false) rfl (by decide) (fun T w' hb hd hB K hK => ?sx17) ?rx17
  case sx17 =>
    have e41 := hd 15 41 _ (by decide) (by kernel_rfl) rfl rfl
    replace e41 : T.getD 41 undef = _ := e41
    have eg := hd 14 40 _ (by decide) (by kernel_rfl) rfl rfl
    replace eg : T.getD 40 undef = .bool false := eg
    rw [if_pos (wanted_yes 14 40 false rfl rfl eg)]
    clear eg
    clear hd hB
    go_simp
    exact hK _ (Below.refl _ _)
  refine DetR.is (o := { dst := some 43, op := Op.move (Operand.tmp 42), type := 4, pos := "law.go:102", after := #[{ on := 16, ground := Ground.data }, { on := 14, ground := Ground.chain }, { on := 14, ground := Ground.guard }], guard := some (14, false) }) (u := .bool false) rfl (by decide) (fun T w' hb hd hB K hK => ?sx18) ?rx18
  case sx18 =>
    have e42 := hd 16 42 _ (by decide) (by kernel_rfl) rfl rfl
    replace e42 : T.getD 42 undef = _ := e42
    have eg := hd 14 40 _ (by decide) (by kernel_rfl) rfl rfl
    replace eg : T.getD 40 undef = .bool false := eg
    rw [if_pos (wanted_yes 14 40 false rfl rfl eg)]
    clear eg
    clear hd hB
    go_simp
    exact hK _ (Below.refl _ _)
  refine DetR.is (o := { dst := some 44, op := Op.load 30 (Operand.tmp 7), type := 30, pos := "law.go:102", after := #[{ on := 17, ground := Ground.guard }], guard := some (17, true) }) (u := ?ux19) rfl (by decide) (fun T w' hb hd hB K hK => ?sx19) ?rx19
  case sx19 =>
    have e7 := (hB 7 (by kernel_rfl)).trans hT7
    have q7_0 : w'.cell? ⟨ga, 0, none⟩ = some (xf) := (blk_cell (blk_below hX7 hb) 0).trans rfl
    have q7_1 : w'.cell? ⟨ga, 1, none⟩ = some (xl) := (blk_cell (blk_below hX7 hb) 1).trans rfl
    have eg := hd 17 43 _ (by decide) (by kernel_rfl) rfl rfl
    replace eg : T.getD 43 undef = .bool false := eg
    rw [if_neg (wanted_no 17 43 false rfl rfl eg)]
    exact hK _ (Below.refl _ _)
  refine DetR.is (o := { dst := some 45, op := Op.load 30 (Operand.tmp 8), type := 30, pos := "law.go:102", after := #[{ on := 17, ground := Ground.guard }], guard := some (17, true) }) (u := ?ux20) rfl (by decide) (fun T w' hb hd hB K hK => ?sx20) ?rx20
  case sx20 =>
    have e8 := (hB 8 (by kernel_rfl)).trans hT8
    have q8_0 : w'.cell? ⟨gb, 0, none⟩ = some (yf) := (blk_cell (blk_below hX8 hb) 0).trans rfl
    have q8_1 : w'.cell? ⟨gb, 1, none⟩ = some (yl) := (blk_cell (blk_below hX8 hb) 1).trans rfl
    have eg := hd 17 43 _ (by decide) (by kernel_rfl) rfl rfl
    replace eg : T.getD 43 undef = .bool false := eg
    rw [if_neg (wanted_no 17 43 false rfl rfl eg)]
    exact hK _ (Below.refl _ _)
  refine DetR.is (o := { dst := some 46, op := Op.call { callee := Callee.value (Operand.func 45), args := #[Operand.tmp 44, Operand.tmp 45], argTypes := #[30, 30] }, type := 4, pos := "law.go:102", after := #[{ on := 18, ground := Ground.data }, { on := 19, ground := Ground.data }, { on := 17, ground := Ground.chain }, { on := 17, ground := Ground.guard }], guard := some (17, true) }) (u := ?ux21) rfl (by decide) (fun T w' hb hd hB K hK => ?sx21) ?rx21
  case sx21 =>
    have e44 := hd 18 44 _ (by decide) (by kernel_rfl) rfl rfl
    replace e44 : T.getD 44 undef = _ := e44
    have e45 := hd 19 45 _ (by decide) (by kernel_rfl) rfl rfl
    replace e45 : T.getD 45 undef = _ := e45
    have eg := hd 17 43 _ (by decide) (by kernel_rfl) rfl rfl
    replace eg : T.getD 43 undef = .bool false := eg
    rw [if_neg (wanted_no 17 43 false rfl rfl eg)]
    exact hK _ (Below.refl _ _)
  refine DetR.is (o := { dst := some 47, op := Op.pick (Operand.tmp 43) (Operand.tmp 46) (Operand.const (Value.bool false)), type := 4, pos := "law.go:102", after := #[{ on := 17, ground := Ground.data }, { on := 20, ground := Ground.data }, { on := 14, ground := Ground.guard }], guard := some (14, false) }) (u := .bool false) rfl (by decide) (fun T w' hb hd hB K hK => ?sx22) ?rx22
  case sx22 =>
    have e43 := hd 17 43 _ (by decide) (by kernel_rfl) rfl rfl
    replace e43 : T.getD 43 undef = _ := e43
    have e46 := hd 20 46 _ (by decide) (by kernel_rfl) rfl rfl
    replace e46 : T.getD 46 undef = _ := e46
    have eg := hd 14 40 _ (by decide) (by kernel_rfl) rfl rfl
    replace eg : T.getD 40 undef = .bool false := eg
    rw [if_pos (wanted_yes 14 40 false rfl rfl eg)]
    clear eg
    clear hd hB
    go_simp
    exact hK _ (Below.refl _ _)
  refine DetR.is (o := { dst := some 48, op := Op.move (Operand.tmp 47), type := 4, pos := "law.go:102", after := #[{ on := 21, ground := Ground.data }, { on := 20, ground := Ground.chain }, { on := 14, ground := Ground.guard }], guard := some (14, false) }) (u := .bool false) rfl (by decide) (fun T w' hb hd hB K hK => ?sx23) ?rx23
  case sx23 =>
    have e47 := hd 21 47 _ (by decide) (by kernel_rfl) rfl rfl
    replace e47 : T.getD 47 undef = _ := e47
    have eg := hd 14 40 _ (by decide) (by kernel_rfl) rfl rfl
    replace eg : T.getD 40 undef = .bool false := eg
    rw [if_pos (wanted_yes 14 40 false rfl rfl eg)]
    clear eg
    clear hd hB
    go_simp
    exact hK _ (Below.refl _ _)
  refine DetR.is (o := { dst := some 49, op := Op.load 30 (Operand.tmp 7), type := 30, pos := "law.go:102", after := #[{ on := 22, ground := Ground.guard }], guard := some (22, true) }) (u := ?ux24) rfl (by decide) (fun T w' hb hd hB K hK => ?sx24) ?rx24
  case sx24 =>
    have e7 := (hB 7 (by kernel_rfl)).trans hT7
    have q7_0 : w'.cell? ⟨ga, 0, none⟩ = some (xf) := (blk_cell (blk_below hX7 hb) 0).trans rfl
    have q7_1 : w'.cell? ⟨ga, 1, none⟩ = some (xl) := (blk_cell (blk_below hX7 hb) 1).trans rfl
    have eg := hd 22 48 _ (by decide) (by kernel_rfl) rfl rfl
    replace eg : T.getD 48 undef = .bool false := eg
    rw [if_neg (wanted_no 22 48 false rfl rfl eg)]
    exact hK _ (Below.refl _ _)
  refine DetR.is (o := { dst := some 50, op := Op.call { callee := Callee.value (Operand.func 34), args := #[Operand.tmp 49], argTypes := #[30] }, type := 3, pos := "law.go:102", after := #[{ on := 23, ground := Ground.data }, { on := 22, ground := Ground.chain }, { on := 22, ground := Ground.guard }], guard := some (22, true) }) (u := ?ux25) rfl (by decide) (fun T w' hb hd hB K hK => ?sx25) ?rx25
  case sx25 =>
    have e49 := hd 23 49 _ (by decide) (by kernel_rfl) rfl rfl
    replace e49 : T.getD 49 undef = _ := e49
    have eg := hd 22 48 _ (by decide) (by kernel_rfl) rfl rfl
    replace eg : T.getD 48 undef = .bool false := eg
    rw [if_neg (wanted_no 22 48 false rfl rfl eg)]
    exact hK _ (Below.refl _ _)
  refine DetR.is (o := { dst := some 51, op := Op.load 30 (Operand.tmp 8), type := 30, pos := "law.go:102", after := #[{ on := 22, ground := Ground.guard }], guard := some (22, true) }) (u := ?ux26) rfl (by decide) (fun T w' hb hd hB K hK => ?sx26) ?rx26
  case sx26 =>
    have e8 := (hB 8 (by kernel_rfl)).trans hT8
    have q8_0 : w'.cell? ⟨gb, 0, none⟩ = some (yf) := (blk_cell (blk_below hX8 hb) 0).trans rfl
    have q8_1 : w'.cell? ⟨gb, 1, none⟩ = some (yl) := (blk_cell (blk_below hX8 hb) 1).trans rfl
    have eg := hd 22 48 _ (by decide) (by kernel_rfl) rfl rfl
    replace eg : T.getD 48 undef = .bool false := eg
    rw [if_neg (wanted_no 22 48 false rfl rfl eg)]
    exact hK _ (Below.refl _ _)
  refine DetR.is (o := { dst := some 52, op := Op.call { callee := Callee.value (Operand.func 34), args := #[Operand.tmp 51], argTypes := #[30] }, type := 3, pos := "law.go:102", after := #[{ on := 25, ground := Ground.data }, { on := 24, ground := Ground.chain }, { on := 22, ground := Ground.guard }], guard := some (22, true) }) (u := ?ux27) rfl (by decide) (fun T w' hb hd hB K hK => ?sx27) ?rx27
  case sx27 =>
    have e51 := hd 25 51 _ (by decide) (by kernel_rfl) rfl rfl
    replace e51 : T.getD 51 undef = _ := e51
    have eg := hd 22 48 _ (by decide) (by kernel_rfl) rfl rfl
    replace eg : T.getD 48 undef = .bool false := eg
    rw [if_neg (wanted_no 22 48 false rfl rfl eg)]
    exact hK _ (Below.refl _ _)
  refine DetR.is (o := { dst := some 53, op := Op.binOp BinOp.gtr 3 (Operand.tmp 50) (Operand.tmp 52) 3, type := 4, pos := "law.go:102", after := #[{ on := 24, ground := Ground.data }, { on := 26, ground := Ground.data }, { on := 22, ground := Ground.guard }], guard := some (22, true) }) (u := ?ux28) rfl (by decide) (fun T w' hb hd hB K hK => ?sx28) ?rx28
  case sx28 =>
    have e50 := hd 24 50 _ (by decide) (by kernel_rfl) rfl rfl
    replace e50 : T.getD 50 undef = _ := e50
    have e52 := hd 26 52 _ (by decide) (by kernel_rfl) rfl rfl
    replace e52 : T.getD 52 undef = _ := e52
    have eg := hd 22 48 _ (by decide) (by kernel_rfl) rfl rfl
    replace eg : T.getD 48 undef = .bool false := eg
    rw [if_neg (wanted_no 22 48 false rfl rfl eg)]
    exact hK _ (Below.refl _ _)
  refine DetR.is (o := { dst := some 54, op := Op.pick (Operand.tmp 48) (Operand.tmp 53) (Operand.const (Value.bool false)), type := 4, pos := "law.go:102", after := #[{ on := 22, ground := Ground.data }, { on := 27, ground := Ground.data }, { on := 14, ground := Ground.guard }], guard := some (14, false) }) (u := .bool false) rfl (by decide) (fun T w' hb hd hB K hK => ?sx29) ?rx29
  case sx29 =>
    have e48 := hd 22 48 _ (by decide) (by kernel_rfl) rfl rfl
    replace e48 : T.getD 48 undef = _ := e48
    have e53 := hd 27 53 _ (by decide) (by kernel_rfl) rfl rfl
    replace e53 : T.getD 53 undef = _ := e53
    have eg := hd 14 40 _ (by decide) (by kernel_rfl) rfl rfl
    replace eg : T.getD 40 undef = .bool false := eg
    rw [if_pos (wanted_yes 14 40 false rfl rfl eg)]
    clear eg
    clear hd hB
    go_simp
    exact hK _ (Below.refl _ _)
  refine DetR.is (o := { dst := some 55, op := Op.pick (Operand.tmp 40) (Operand.const (Value.bool true)) (Operand.tmp 54), type := 4, pos := "law.go:102", after := #[{ on := 14, ground := Ground.data }, { on := 28, ground := Ground.data }], guard := none }) (u := .bool false) rfl (by decide) (fun T w' hb hd hB K hK => ?sx30) ?rx30
  case sx30 =>
    have e40 := hd 14 40 _ (by decide) (by kernel_rfl) rfl rfl
    replace e40 : T.getD 40 undef = _ := e40
    have e54 := hd 28 54 _ (by decide) (by kernel_rfl) rfl rfl
    replace e54 : T.getD 54 undef = _ := e54
    rw [if_pos (wanted_none _ rfl)]
    clear hd hB
    go_simp
    exact hK _ (Below.refl _ _)
  refine DetR.done [some 26, some 27, some 28, some 29, some 30, some 31, some 32, some 33, some 34, some 35, some 36, some 37, some 38, some 39, some 40, some 41, some 42, some 43, some 44, some 45, some 46, some 47, some 48, some 49, some 50, some 51, some 52, some 53, some 54, some 55] (by kernel_rfl) rfl (by kernel_rfl) ?_
  intro v w' hb hv
  exact hK v w' hb (hv 29 _ (by decide) rfl)
set_option maxHeartbeats 4000000 in
set_option maxRecDepth 100000 in
theorem KboSizes_r7ft {id : Nat} {a : Act} {w : World} {Q : Exit → Act → World → Prop} {ga gb nx ny : Nat} {xf xl yf yl : Value}
    (hr : regionOk #[{ dst := some 26, op := Op.move (Operand.tmp 9), type := 4, pos := "law.go:102", after := #[], guard := none }, { dst := some 27, op := Op.move (Operand.tmp 26), type := 4, pos := "law.go:102", after := #[{ on := 0, ground := Ground.data }], guard := none }, { dst := some 28, op := Op.load 30 (Operand.tmp 7), type := 30, pos := "law.go:102", after := #[{ on := 1, ground := Ground.guard }], guard := some (1, true) }, { dst := some 29, op := Op.call { callee := Callee.value (Operand.func 34), args := #[Operand.tmp 28], argTypes := #[30] }, type := 3, pos := "law.go:102", after := #[{ on := 2, ground := Ground.data }, { on := 1, ground := Ground.chain }, { on := 1, ground := Ground.guard }], guard := some (1, true) }, { dst := some 30, op := Op.load 30 (Operand.tmp 8), type := 30, pos := "law.go:102", after := #[{ on := 1, ground := Ground.guard }], guard := some (1, true) }, { dst := some 31, op := Op.call { callee := Callee.value (Operand.func 34), args := #[Operand.tmp 30], argTypes := #[30] }, type := 3, pos := "law.go:102", after := #[{ on := 4, ground := Ground.data }, { on := 3, ground := Ground.chain }, { on := 1, ground := Ground.guard }], guard := some (1, true) }, { dst := some 32, op := Op.binOp BinOp.lss 3 (Operand.tmp 29) (Operand.tmp 31) 3, type := 4, pos := "law.go:102", after := #[{ on := 3, ground := Ground.data }, { on := 5, ground := Ground.data }, { on := 1, ground := Ground.guard }], guard := some (1, true) }, { dst := some 33, op := Op.move (Operand.tmp 32), type := 4, pos := "law.go:102", after := #[{ on := 6, ground := Ground.data }, { on := 5, ground := Ground.chain }, { on := 1, ground := Ground.guard }], guard := some (1, true) }, { dst := some 34, op := Op.load 30 (Operand.tmp 7), type := 30, pos := "law.go:102", after := #[{ on := 7, ground := Ground.guard }], guard := some (7, false) }, { dst := some 35, op := Op.load 30 (Operand.tmp 8), type := 30, pos := "law.go:102", after := #[{ on := 7, ground := Ground.guard }], guard := some (7, false) }, { dst := some 36, op := Op.call { callee := Callee.value (Operand.func 45), args := #[Operand.tmp 34, Operand.tmp 35], argTypes := #[30, 30] }, type := 4, pos := "law.go:102", after := #[{ on := 8, ground := Ground.data }, { on := 9, ground := Ground.data }, { on := 7, ground := Ground.chain }, { on := 7, ground := Ground.guard }], guard := some (7, false) }, { dst := some 37, op := Op.unOp UnOp.not 4 (Operand.tmp 36), type := 4, pos := "law.go:102", after := #[{ on := 10, ground := Ground.data }, { on := 7, ground := Ground.guard }], guard := some (7, false) }, { dst := some 38, op := Op.pick (Operand.tmp 33) (Operand.const (Value.bool true)) (Operand.tmp 37), type := 4, pos := "law.go:102", after := #[{ on := 7, ground := Ground.data }, { on := 11, ground := Ground.data }, { on := 1, ground := Ground.guard }], guard := some (1, true) }, { dst := some 39, op := Op.pick (Operand.tmp 27) (Operand.tmp 38) (Operand.const (Value.bool false)), type := 4, pos := "law.go:102", after := #[{ on := 1, ground := Ground.data }, { on := 12, ground := Ground.data }], guard := none }, { dst := some 40, op := Op.move (Operand.tmp 39), type := 4, pos := "law.go:102", after := #[{ on := 13, ground := Ground.data }, { on := 10, ground := Ground.chain }], guard := none }, { dst := some 41, op := Op.move (Operand.tmp 9), type := 4, pos := "law.go:102", after := #[{ on := 14, ground := Ground.guard }], guard := some (14, false) }, { dst := some 42, op := Op.unOp UnOp.not 4 (Operand.tmp 41), type := 4, pos := "law.go:102", after := #[{ on := 15, ground := Ground.data }, { on := 14, ground := Ground.guard }], guard := some (14, false) }, { dst := some 43, op := Op.move (Operand.tmp 42), type := 4, pos := "law.go:102", after := #[{ on := 16, ground := Ground.data }, { on := 14, ground := Ground.chain }, { on := 14, ground := Ground.guard }], guard := some (14, false) }, { dst := some 44, op := Op.load 30 (Operand.tmp 7), type := 30, pos := "law.go:102", after := #[{ on := 17, ground := Ground.guard }], guard := some (17, true) }, { dst := some 45, op := Op.load 30 (Operand.tmp 8), type := 30, pos := "law.go:102", after := #[{ on := 17, ground := Ground.guard }], guard := some (17, true) }, { dst := some 46, op := Op.call { callee := Callee.value (Operand.func 45), args := #[Operand.tmp 44, Operand.tmp 45], argTypes := #[30, 30] }, type := 4, pos := "law.go:102", after := #[{ on := 18, ground := Ground.data }, { on := 19, ground := Ground.data }, { on := 17, ground := Ground.chain }, { on := 17, ground := Ground.guard }], guard := some (17, true) }, { dst := some 47, op := Op.pick (Operand.tmp 43) (Operand.tmp 46) (Operand.const (Value.bool false)), type := 4, pos := "law.go:102", after := #[{ on := 17, ground := Ground.data }, { on := 20, ground := Ground.data }, { on := 14, ground := Ground.guard }], guard := some (14, false) }, { dst := some 48, op := Op.move (Operand.tmp 47), type := 4, pos := "law.go:102", after := #[{ on := 21, ground := Ground.data }, { on := 20, ground := Ground.chain }, { on := 14, ground := Ground.guard }], guard := some (14, false) }, { dst := some 49, op := Op.load 30 (Operand.tmp 7), type := 30, pos := "law.go:102", after := #[{ on := 22, ground := Ground.guard }], guard := some (22, true) }, { dst := some 50, op := Op.call { callee := Callee.value (Operand.func 34), args := #[Operand.tmp 49], argTypes := #[30] }, type := 3, pos := "law.go:102", after := #[{ on := 23, ground := Ground.data }, { on := 22, ground := Ground.chain }, { on := 22, ground := Ground.guard }], guard := some (22, true) }, { dst := some 51, op := Op.load 30 (Operand.tmp 8), type := 30, pos := "law.go:102", after := #[{ on := 22, ground := Ground.guard }], guard := some (22, true) }, { dst := some 52, op := Op.call { callee := Callee.value (Operand.func 34), args := #[Operand.tmp 51], argTypes := #[30] }, type := 3, pos := "law.go:102", after := #[{ on := 25, ground := Ground.data }, { on := 24, ground := Ground.chain }, { on := 22, ground := Ground.guard }], guard := some (22, true) }, { dst := some 53, op := Op.binOp BinOp.gtr 3 (Operand.tmp 50) (Operand.tmp 52) 3, type := 4, pos := "law.go:102", after := #[{ on := 24, ground := Ground.data }, { on := 26, ground := Ground.data }, { on := 22, ground := Ground.guard }], guard := some (22, true) }, { dst := some 54, op := Op.pick (Operand.tmp 48) (Operand.tmp 53) (Operand.const (Value.bool false)), type := 4, pos := "law.go:102", after := #[{ on := 22, ground := Ground.data }, { on := 27, ground := Ground.data }, { on := 14, ground := Ground.guard }], guard := some (14, false) }, { dst := some 55, op := Op.pick (Operand.tmp 40) (Operand.const (Value.bool true)) (Operand.tmp 54), type := 4, pos := "law.go:102", after := #[{ on := 14, ground := Ground.data }, { on := 28, ground := Ground.data }], guard := none }] a.tmps.size = true)
    (hT9 : a.tmps.getD 9 undef = .bool false)
    (hT7 : a.tmps.getD 7 undef = .pointer (some ⟨ga, 0, none⟩)) (hX7 : w.heap[ga]? = some (.cells #[xf, xl] 30 (0, 0)))
    (hT8 : a.tmps.getD 8 undef = .pointer (some ⟨gb, 0, none⟩)) (hX8 : w.heap[gb]? = some (.cells #[yf, yl] 30 (0, 0)))
    (hF20 : ∀ w1, Below w.heap.size w w1 → Calls Try.prog 45 #[.agg #[xf, xl], .agg #[yf, yl]] w1 fun e w2 => e = .returned (.bool true) ∧ Below w1.heap.size w1 w2)
    (hF24 : ∀ w1, Below w.heap.size w w1 → Calls Try.prog 34 #[.agg #[xf, xl]] w1 fun e w2 => e = .returned (.int .i64 (nx : Int)) ∧ Below w1.heap.size w1 w2)
    (hF26 : ∀ w1, Below w.heap.size w w1 → Calls Try.prog 34 #[.agg #[yf, yl]] w1 fun e w2 => e = .returned (.int .i64 (ny : Int)) ∧ Below w1.heap.size w1 w2)
    (hn : nx ≤ ny)
    (hK : ∀ v w', Below w.heap.size w w' → v 29 = .bool false → Q .normal { tmps := layL [some 26, some 27, some 28, some 29, some 30, some 31, some 32, some 33, some 34, some 35, some 36, some 37, some 38, some 39, some 40, some 41, some 42, some 43, some 44, some 45, some 46, some 47, some 48, some 49, some 50, some 51, some 52, some 53, some 54, some 55] 0 v a.tmps, defers := a.defers } w') :
    (Code.region id #[{ dst := some 26, op := Op.move (Operand.tmp 9), type := 4, pos := "law.go:102", after := #[], guard := none }, { dst := some 27, op := Op.move (Operand.tmp 26), type := 4, pos := "law.go:102", after := #[{ on := 0, ground := Ground.data }], guard := none }, { dst := some 28, op := Op.load 30 (Operand.tmp 7), type := 30, pos := "law.go:102", after := #[{ on := 1, ground := Ground.guard }], guard := some (1, true) }, { dst := some 29, op := Op.call { callee := Callee.value (Operand.func 34), args := #[Operand.tmp 28], argTypes := #[30] }, type := 3, pos := "law.go:102", after := #[{ on := 2, ground := Ground.data }, { on := 1, ground := Ground.chain }, { on := 1, ground := Ground.guard }], guard := some (1, true) }, { dst := some 30, op := Op.load 30 (Operand.tmp 8), type := 30, pos := "law.go:102", after := #[{ on := 1, ground := Ground.guard }], guard := some (1, true) }, { dst := some 31, op := Op.call { callee := Callee.value (Operand.func 34), args := #[Operand.tmp 30], argTypes := #[30] }, type := 3, pos := "law.go:102", after := #[{ on := 4, ground := Ground.data }, { on := 3, ground := Ground.chain }, { on := 1, ground := Ground.guard }], guard := some (1, true) }, { dst := some 32, op := Op.binOp BinOp.lss 3 (Operand.tmp 29) (Operand.tmp 31) 3, type := 4, pos := "law.go:102", after := #[{ on := 3, ground := Ground.data }, { on := 5, ground := Ground.data }, { on := 1, ground := Ground.guard }], guard := some (1, true) }, { dst := some 33, op := Op.move (Operand.tmp 32), type := 4, pos := "law.go:102", after := #[{ on := 6, ground := Ground.data }, { on := 5, ground := Ground.chain }, { on := 1, ground := Ground.guard }], guard := some (1, true) }, { dst := some 34, op := Op.load 30 (Operand.tmp 7), type := 30, pos := "law.go:102", after := #[{ on := 7, ground := Ground.guard }], guard := some (7, false) }, { dst := some 35, op := Op.load 30 (Operand.tmp 8), type := 30, pos := "law.go:102", after := #[{ on := 7, ground := Ground.guard }], guard := some (7, false) }, { dst := some 36, op := Op.call { callee := Callee.value (Operand.func 45), args := #[Operand.tmp 34, Operand.tmp 35], argTypes := #[30, 30] }, type := 4, pos := "law.go:102", after := #[{ on := 8, ground := Ground.data }, { on := 9, ground := Ground.data }, { on := 7, ground := Ground.chain }, { on := 7, ground := Ground.guard }], guard := some (7, false) }, { dst := some 37, op := Op.unOp UnOp.not 4 (Operand.tmp 36), type := 4, pos := "law.go:102", after := #[{ on := 10, ground := Ground.data }, { on := 7, ground := Ground.guard }], guard := some (7, false) }, { dst := some 38, op := Op.pick (Operand.tmp 33) (Operand.const (Value.bool true)) (Operand.tmp 37), type := 4, pos := "law.go:102", after := #[{ on := 7, ground := Ground.data }, { on := 11, ground := Ground.data }, { on := 1, ground := Ground.guard }], guard := some (1, true) }, { dst := some 39, op := Op.pick (Operand.tmp 27) (Operand.tmp 38) (Operand.const (Value.bool false)), type := 4, pos := "law.go:102", after := #[{ on := 1, ground := Ground.data }, { on := 12, ground := Ground.data }], guard := none }, { dst := some 40, op := Op.move (Operand.tmp 39), type := 4, pos := "law.go:102", after := #[{ on := 13, ground := Ground.data }, { on := 10, ground := Ground.chain }], guard := none }, { dst := some 41, op := Op.move (Operand.tmp 9), type := 4, pos := "law.go:102", after := #[{ on := 14, ground := Ground.guard }], guard := some (14, false) }, { dst := some 42, op := Op.unOp UnOp.not 4 (Operand.tmp 41), type := 4, pos := "law.go:102", after := #[{ on := 15, ground := Ground.data }, { on := 14, ground := Ground.guard }], guard := some (14, false) }, { dst := some 43, op := Op.move (Operand.tmp 42), type := 4, pos := "law.go:102", after := #[{ on := 16, ground := Ground.data }, { on := 14, ground := Ground.chain }, { on := 14, ground := Ground.guard }], guard := some (14, false) }, { dst := some 44, op := Op.load 30 (Operand.tmp 7), type := 30, pos := "law.go:102", after := #[{ on := 17, ground := Ground.guard }], guard := some (17, true) }, { dst := some 45, op := Op.load 30 (Operand.tmp 8), type := 30, pos := "law.go:102", after := #[{ on := 17, ground := Ground.guard }], guard := some (17, true) }, { dst := some 46, op := Op.call { callee := Callee.value (Operand.func 45), args := #[Operand.tmp 44, Operand.tmp 45], argTypes := #[30, 30] }, type := 4, pos := "law.go:102", after := #[{ on := 18, ground := Ground.data }, { on := 19, ground := Ground.data }, { on := 17, ground := Ground.chain }, { on := 17, ground := Ground.guard }], guard := some (17, true) }, { dst := some 47, op := Op.pick (Operand.tmp 43) (Operand.tmp 46) (Operand.const (Value.bool false)), type := 4, pos := "law.go:102", after := #[{ on := 17, ground := Ground.data }, { on := 20, ground := Ground.data }, { on := 14, ground := Ground.guard }], guard := some (14, false) }, { dst := some 48, op := Op.move (Operand.tmp 47), type := 4, pos := "law.go:102", after := #[{ on := 21, ground := Ground.data }, { on := 20, ground := Ground.chain }, { on := 14, ground := Ground.guard }], guard := some (14, false) }, { dst := some 49, op := Op.load 30 (Operand.tmp 7), type := 30, pos := "law.go:102", after := #[{ on := 22, ground := Ground.guard }], guard := some (22, true) }, { dst := some 50, op := Op.call { callee := Callee.value (Operand.func 34), args := #[Operand.tmp 49], argTypes := #[30] }, type := 3, pos := "law.go:102", after := #[{ on := 23, ground := Ground.data }, { on := 22, ground := Ground.chain }, { on := 22, ground := Ground.guard }], guard := some (22, true) }, { dst := some 51, op := Op.load 30 (Operand.tmp 8), type := 30, pos := "law.go:102", after := #[{ on := 22, ground := Ground.guard }], guard := some (22, true) }, { dst := some 52, op := Op.call { callee := Callee.value (Operand.func 34), args := #[Operand.tmp 51], argTypes := #[30] }, type := 3, pos := "law.go:102", after := #[{ on := 25, ground := Ground.data }, { on := 24, ground := Ground.chain }, { on := 22, ground := Ground.guard }], guard := some (22, true) }, { dst := some 53, op := Op.binOp BinOp.gtr 3 (Operand.tmp 50) (Operand.tmp 52) 3, type := 4, pos := "law.go:102", after := #[{ on := 24, ground := Ground.data }, { on := 26, ground := Ground.data }, { on := 22, ground := Ground.guard }], guard := some (22, true) }, { dst := some 54, op := Op.pick (Operand.tmp 48) (Operand.tmp 53) (Operand.const (Value.bool false)), type := 4, pos := "law.go:102", after := #[{ on := 22, ground := Ground.data }, { on := 27, ground := Ground.data }, { on := 14, ground := Ground.guard }], guard := some (14, false) }, { dst := some 55, op := Op.pick (Operand.tmp 40) (Operand.const (Value.bool true)) (Operand.tmp 54), type := 4, pos := "law.go:102", after := #[{ on := 14, ground := Ground.data }, { on := 28, ground := Ground.data }], guard := none }] true).wp Try.prog Q a w := by
  have hmx : Try.prog.follows .mixedOrders = true := by kernel_rfl
  refine region_detR 30 hmx hr (by kernel_rfl) ?_
  refine DetR.is (o := { dst := some 26, op := Op.move (Operand.tmp 9), type := 4, pos := "law.go:102", after := #[], guard := none }) (u := ?ux31) rfl (by decide) (fun T w' hb hd hB K hK => ?sx31) ?rx31
  case sx31 =>
    have e9 := (hB 9 (by kernel_rfl)).trans hT9
    rw [if_pos (wanted_none _ rfl)]
    clear hd hB
    go_simp
    exact hK _ (Below.refl _ _)
  refine DetR.is (o := { dst := some 27, op := Op.move (Operand.tmp 26), type := 4, pos := "law.go:102", after := #[{ on := 0, ground := Ground.data }], guard := none }) (u := .bool false) rfl (by decide) (fun T w' hb hd hB K hK => ?sx32) ?rx32
  case sx32 =>
    have e26 := hd 0 26 _ (by decide) (by kernel_rfl) rfl rfl
    replace e26 : T.getD 26 undef = _ := e26
    rw [if_pos (wanted_none _ rfl)]
    clear hd hB
    go_simp
    exact hK _ (Below.refl _ _)
  refine DetR.is (o := { dst := some 28, op := Op.load 30 (Operand.tmp 7), type := 30, pos := "law.go:102", after := #[{ on := 1, ground := Ground.guard }], guard := some (1, true) }) (u := ?ux33) rfl (by decide) (fun T w' hb hd hB K hK => ?sx33) ?rx33
  case sx33 =>
    have e7 := (hB 7 (by kernel_rfl)).trans hT7
    have q7_0 : w'.cell? ⟨ga, 0, none⟩ = some (xf) := (blk_cell (blk_below hX7 hb) 0).trans rfl
    have q7_1 : w'.cell? ⟨ga, 1, none⟩ = some (xl) := (blk_cell (blk_below hX7 hb) 1).trans rfl
    have eg := hd 1 27 _ (by decide) (by kernel_rfl) rfl rfl
    replace eg : T.getD 27 undef = .bool false := eg
    rw [if_neg (wanted_no 1 27 false rfl rfl eg)]
    exact hK _ (Below.refl _ _)
  refine DetR.is (o := { dst := some 29, op := Op.call { callee := Callee.value (Operand.func 34), args := #[Operand.tmp 28], argTypes := #[30] }, type := 3, pos := "law.go:102", after := #[{ on := 2, ground := Ground.data }, { on := 1, ground := Ground.chain }, { on := 1, ground := Ground.guard }], guard := some (1, true) }) (u := ?ux34) rfl (by decide) (fun T w' hb hd hB K hK => ?sx34) ?rx34
  case sx34 =>
    have e28 := hd 2 28 _ (by decide) (by kernel_rfl) rfl rfl
    replace e28 : T.getD 28 undef = _ := e28
    have eg := hd 1 27 _ (by decide) (by kernel_rfl) rfl rfl
    replace eg : T.getD 27 undef = .bool false := eg
    rw [if_neg (wanted_no 1 27 false rfl rfl eg)]
    exact hK _ (Below.refl _ _)
  refine DetR.is (o := { dst := some 30, op := Op.load 30 (Operand.tmp 8), type := 30, pos := "law.go:102", after := #[{ on := 1, ground := Ground.guard }], guard := some (1, true) }) (u := ?ux35) rfl (by decide) (fun T w' hb hd hB K hK => ?sx35) ?rx35
  case sx35 =>
    have e8 := (hB 8 (by kernel_rfl)).trans hT8
    have q8_0 : w'.cell? ⟨gb, 0, none⟩ = some (yf) := (blk_cell (blk_below hX8 hb) 0).trans rfl
    have q8_1 : w'.cell? ⟨gb, 1, none⟩ = some (yl) := (blk_cell (blk_below hX8 hb) 1).trans rfl
    have eg := hd 1 27 _ (by decide) (by kernel_rfl) rfl rfl
    replace eg : T.getD 27 undef = .bool false := eg
    rw [if_neg (wanted_no 1 27 false rfl rfl eg)]
    exact hK _ (Below.refl _ _)
  refine DetR.is (o := { dst := some 31, op := Op.call { callee := Callee.value (Operand.func 34), args := #[Operand.tmp 30], argTypes := #[30] }, type := 3, pos := "law.go:102", after := #[{ on := 4, ground := Ground.data }, { on := 3, ground := Ground.chain }, { on := 1, ground := Ground.guard }], guard := some (1, true) }) (u := ?ux36) rfl (by decide) (fun T w' hb hd hB K hK => ?sx36) ?rx36
  case sx36 =>
    have e30 := hd 4 30 _ (by decide) (by kernel_rfl) rfl rfl
    replace e30 : T.getD 30 undef = _ := e30
    have eg := hd 1 27 _ (by decide) (by kernel_rfl) rfl rfl
    replace eg : T.getD 27 undef = .bool false := eg
    rw [if_neg (wanted_no 1 27 false rfl rfl eg)]
    exact hK _ (Below.refl _ _)
  refine DetR.is (o := { dst := some 32, op := Op.binOp BinOp.lss 3 (Operand.tmp 29) (Operand.tmp 31) 3, type := 4, pos := "law.go:102", after := #[{ on := 3, ground := Ground.data }, { on := 5, ground := Ground.data }, { on := 1, ground := Ground.guard }], guard := some (1, true) }) (u := ?ux37) rfl (by decide) (fun T w' hb hd hB K hK => ?sx37) ?rx37
  case sx37 =>
    have e29 := hd 3 29 _ (by decide) (by kernel_rfl) rfl rfl
    replace e29 : T.getD 29 undef = _ := e29
    have e31 := hd 5 31 _ (by decide) (by kernel_rfl) rfl rfl
    replace e31 : T.getD 31 undef = _ := e31
    have eg := hd 1 27 _ (by decide) (by kernel_rfl) rfl rfl
    replace eg : T.getD 27 undef = .bool false := eg
    rw [if_neg (wanted_no 1 27 false rfl rfl eg)]
    exact hK _ (Below.refl _ _)
  refine DetR.is (o := { dst := some 33, op := Op.move (Operand.tmp 32), type := 4, pos := "law.go:102", after := #[{ on := 6, ground := Ground.data }, { on := 5, ground := Ground.chain }, { on := 1, ground := Ground.guard }], guard := some (1, true) }) (u := ?ux38) rfl (by decide) (fun T w' hb hd hB K hK => ?sx38) ?rx38
  case sx38 =>
    have e32 := hd 6 32 _ (by decide) (by kernel_rfl) rfl rfl
    replace e32 : T.getD 32 undef = _ := e32
    have eg := hd 1 27 _ (by decide) (by kernel_rfl) rfl rfl
    replace eg : T.getD 27 undef = .bool false := eg
    rw [if_neg (wanted_no 1 27 false rfl rfl eg)]
    exact hK _ (Below.refl _ _)
  refine DetR.is (o := { dst := some 34, op := Op.load 30 (Operand.tmp 7), type := 30, pos := "law.go:102", after := #[{ on := 7, ground := Ground.guard }], guard := some (7, false) }) (u := ?ux39) rfl (by decide) (fun T w' hb hd hB K hK => ?sx39) ?rx39
  case sx39 =>
    have e7 := (hB 7 (by kernel_rfl)).trans hT7
    have q7_0 : w'.cell? ⟨ga, 0, none⟩ = some (xf) := (blk_cell (blk_below hX7 hb) 0).trans rfl
    have q7_1 : w'.cell? ⟨ga, 1, none⟩ = some (xl) := (blk_cell (blk_below hX7 hb) 1).trans rfl
    have eg := hd 7 33 _ (by decide) (by kernel_rfl) rfl rfl
    rw [if_neg (wanted_undef 7 33 rfl rfl eg)]
    exact hK _ (Below.refl _ _)
  refine DetR.is (o := { dst := some 35, op := Op.load 30 (Operand.tmp 8), type := 30, pos := "law.go:102", after := #[{ on := 7, ground := Ground.guard }], guard := some (7, false) }) (u := ?ux40) rfl (by decide) (fun T w' hb hd hB K hK => ?sx40) ?rx40
  case sx40 =>
    have e8 := (hB 8 (by kernel_rfl)).trans hT8
    have q8_0 : w'.cell? ⟨gb, 0, none⟩ = some (yf) := (blk_cell (blk_below hX8 hb) 0).trans rfl
    have q8_1 : w'.cell? ⟨gb, 1, none⟩ = some (yl) := (blk_cell (blk_below hX8 hb) 1).trans rfl
    have eg := hd 7 33 _ (by decide) (by kernel_rfl) rfl rfl
    rw [if_neg (wanted_undef 7 33 rfl rfl eg)]
    exact hK _ (Below.refl _ _)
  refine DetR.is (o := { dst := some 36, op := Op.call { callee := Callee.value (Operand.func 45), args := #[Operand.tmp 34, Operand.tmp 35], argTypes := #[30, 30] }, type := 4, pos := "law.go:102", after := #[{ on := 8, ground := Ground.data }, { on := 9, ground := Ground.data }, { on := 7, ground := Ground.chain }, { on := 7, ground := Ground.guard }], guard := some (7, false) }) (u := ?ux41) rfl (by decide) (fun T w' hb hd hB K hK => ?sx41) ?rx41
  case sx41 =>
    have e34 := hd 8 34 _ (by decide) (by kernel_rfl) rfl rfl
    replace e34 : T.getD 34 undef = _ := e34
    have e35 := hd 9 35 _ (by decide) (by kernel_rfl) rfl rfl
    replace e35 : T.getD 35 undef = _ := e35
    have eg := hd 7 33 _ (by decide) (by kernel_rfl) rfl rfl
    rw [if_neg (wanted_undef 7 33 rfl rfl eg)]
    exact hK _ (Below.refl _ _)
  refine DetR.is (o := { dst := some 37, op := Op.unOp UnOp.not 4 (Operand.tmp 36), type := 4, pos := "law.go:102", after := #[{ on := 10, ground := Ground.data }, { on := 7, ground := Ground.guard }], guard := some (7, false) }) (u := ?ux42) rfl (by decide) (fun T w' hb hd hB K hK => ?sx42) ?rx42
  case sx42 =>
    have e36 := hd 10 36 _ (by decide) (by kernel_rfl) rfl rfl
    replace e36 : T.getD 36 undef = _ := e36
    have eg := hd 7 33 _ (by decide) (by kernel_rfl) rfl rfl
    rw [if_neg (wanted_undef 7 33 rfl rfl eg)]
    exact hK _ (Below.refl _ _)
  refine DetR.is (o := { dst := some 38, op := Op.pick (Operand.tmp 33) (Operand.const (Value.bool true)) (Operand.tmp 37), type := 4, pos := "law.go:102", after := #[{ on := 7, ground := Ground.data }, { on := 11, ground := Ground.data }, { on := 1, ground := Ground.guard }], guard := some (1, true) }) (u := ?ux43) rfl (by decide) (fun T w' hb hd hB K hK => ?sx43) ?rx43
  case sx43 =>
    have e33 := hd 7 33 _ (by decide) (by kernel_rfl) rfl rfl
    replace e33 : T.getD 33 undef = _ := e33
    have e37 := hd 11 37 _ (by decide) (by kernel_rfl) rfl rfl
    replace e37 : T.getD 37 undef = _ := e37
    have eg := hd 1 27 _ (by decide) (by kernel_rfl) rfl rfl
    replace eg : T.getD 27 undef = .bool false := eg
    rw [if_neg (wanted_no 1 27 false rfl rfl eg)]
    exact hK _ (Below.refl _ _)
  refine DetR.is (o := { dst := some 39, op := Op.pick (Operand.tmp 27) (Operand.tmp 38) (Operand.const (Value.bool false)), type := 4, pos := "law.go:102", after := #[{ on := 1, ground := Ground.data }, { on := 12, ground := Ground.data }], guard := none }) (u := .bool false) rfl (by decide) (fun T w' hb hd hB K hK => ?sx44) ?rx44
  case sx44 =>
    have e27 := hd 1 27 _ (by decide) (by kernel_rfl) rfl rfl
    replace e27 : T.getD 27 undef = _ := e27
    have e38 := hd 12 38 _ (by decide) (by kernel_rfl) rfl rfl
    replace e38 : T.getD 38 undef = _ := e38
    rw [if_pos (wanted_none _ rfl)]
    clear hd hB
    go_simp
    exact hK _ (Below.refl _ _)
  refine DetR.is (o := { dst := some 40, op := Op.move (Operand.tmp 39), type := 4, pos := "law.go:102", after := #[{ on := 13, ground := Ground.data }, { on := 10, ground := Ground.chain }], guard := none }) (u := .bool false) rfl (by decide) (fun T w' hb hd hB K hK => ?sx45) ?rx45
  case sx45 =>
    have e39 := hd 13 39 _ (by decide) (by kernel_rfl) rfl rfl
    replace e39 : T.getD 39 undef = _ := e39
    rw [if_pos (wanted_none _ rfl)]
    clear hd hB
    go_simp
    exact hK _ (Below.refl _ _)
  refine DetR.is (o := { dst := some 41, op := Op.move (Operand.tmp 9), type := 4, pos := "law.go:102", after := #[{ on := 14, ground := Ground.guard }], guard := some (14, false) }) (u := ?ux46) rfl (by decide) (fun T w' hb hd hB K hK => ?sx46) ?rx46
  case sx46 =>
    have e9 := (hB 9 (by kernel_rfl)).trans hT9
    have eg := hd 14 40 _ (by decide) (by kernel_rfl) rfl rfl
    replace eg : T.getD 40 undef = .bool false := eg
    rw [if_pos (wanted_yes 14 40 false rfl rfl eg)]
    clear eg
    clear hd hB
    go_simp
    exact hK _ (Below.refl _ _)
  refine DetR.is (o := { dst := some 42, op := Op.unOp UnOp.not 4 (Operand.tmp 41), type := 4, pos := "law.go:102", after := #[{ on := 15, ground := Ground.data }, { on := 14, ground := Ground.guard }], guard := some (14, false) }) (u := .bool true) rfl (by decide) (fun T w' hb hd hB K hK => ?sx47) ?rx47
  case sx47 =>
    have e41 := hd 15 41 _ (by decide) (by kernel_rfl) rfl rfl
    replace e41 : T.getD 41 undef = _ := e41
    have eg := hd 14 40 _ (by decide) (by kernel_rfl) rfl rfl
    replace eg : T.getD 40 undef = .bool false := eg
    rw [if_pos (wanted_yes 14 40 false rfl rfl eg)]
    clear eg
    clear hd hB
    go_simp
    exact hK _ (Below.refl _ _)
  refine DetR.is (o := { dst := some 43, op := Op.move (Operand.tmp 42), type := 4, pos := "law.go:102", after := #[{ on := 16, ground := Ground.data }, { on := 14, ground := Ground.chain }, { on := 14, ground := Ground.guard }], guard := some (14, false) }) (u := .bool true) rfl (by decide) (fun T w' hb hd hB K hK => ?sx48) ?rx48
  case sx48 =>
    have e42 := hd 16 42 _ (by decide) (by kernel_rfl) rfl rfl
    replace e42 : T.getD 42 undef = _ := e42
    have eg := hd 14 40 _ (by decide) (by kernel_rfl) rfl rfl
    replace eg : T.getD 40 undef = .bool false := eg
    rw [if_pos (wanted_yes 14 40 false rfl rfl eg)]
    clear eg
    clear hd hB
    go_simp
    exact hK _ (Below.refl _ _)
  refine DetR.is (o := { dst := some 44, op := Op.load 30 (Operand.tmp 7), type := 30, pos := "law.go:102", after := #[{ on := 17, ground := Ground.guard }], guard := some (17, true) }) (u := ?ux49) rfl (by decide) (fun T w' hb hd hB K hK => ?sx49) ?rx49
  case sx49 =>
    have e7 := (hB 7 (by kernel_rfl)).trans hT7
    have q7_0 : w'.cell? ⟨ga, 0, none⟩ = some (xf) := (blk_cell (blk_below hX7 hb) 0).trans rfl
    have q7_1 : w'.cell? ⟨ga, 1, none⟩ = some (xl) := (blk_cell (blk_below hX7 hb) 1).trans rfl
    have eg := hd 17 43 _ (by decide) (by kernel_rfl) rfl rfl
    replace eg : T.getD 43 undef = .bool true := eg
    rw [if_pos (wanted_yes 17 43 true rfl rfl eg)]
    clear eg
    clear hd hB
    go_simp
    exact hK _ (Below.refl _ _)
  refine DetR.is (o := { dst := some 45, op := Op.load 30 (Operand.tmp 8), type := 30, pos := "law.go:102", after := #[{ on := 17, ground := Ground.guard }], guard := some (17, true) }) (u := ?ux50) rfl (by decide) (fun T w' hb hd hB K hK => ?sx50) ?rx50
  case sx50 =>
    have e8 := (hB 8 (by kernel_rfl)).trans hT8
    have q8_0 : w'.cell? ⟨gb, 0, none⟩ = some (yf) := (blk_cell (blk_below hX8 hb) 0).trans rfl
    have q8_1 : w'.cell? ⟨gb, 1, none⟩ = some (yl) := (blk_cell (blk_below hX8 hb) 1).trans rfl
    have eg := hd 17 43 _ (by decide) (by kernel_rfl) rfl rfl
    replace eg : T.getD 43 undef = .bool true := eg
    rw [if_pos (wanted_yes 17 43 true rfl rfl eg)]
    clear eg
    clear hd hB
    go_simp
    exact hK _ (Below.refl _ _)
  refine DetR.is (o := { dst := some 46, op := Op.call { callee := Callee.value (Operand.func 45), args := #[Operand.tmp 44, Operand.tmp 45], argTypes := #[30, 30] }, type := 4, pos := "law.go:102", after := #[{ on := 18, ground := Ground.data }, { on := 19, ground := Ground.data }, { on := 17, ground := Ground.chain }, { on := 17, ground := Ground.guard }], guard := some (17, true) }) (u := ?ux51) rfl (by decide) (fun T w' hb hd hB K hK => ?sx51) ?rx51
  case sx51 =>
    have e44 := hd 18 44 _ (by decide) (by kernel_rfl) rfl rfl
    replace e44 : T.getD 44 undef = _ := e44
    have e45 := hd 19 45 _ (by decide) (by kernel_rfl) rfl rfl
    replace e45 : T.getD 45 undef = _ := e45
    have eg := hd 17 43 _ (by decide) (by kernel_rfl) rfl rfl
    replace eg : T.getD 43 undef = .bool true := eg
    rw [if_pos (wanted_yes 17 43 true rfl rfl eg)]
    clear eg
    have hcl := hF20 w' hb
    clear hd hB
    go_simp
    go_at_call 45
    refine hcl.mono ?_
    rintro e w2 ⟨rfl, h2⟩
    exact hK _ h2
  refine DetR.is (o := { dst := some 47, op := Op.pick (Operand.tmp 43) (Operand.tmp 46) (Operand.const (Value.bool false)), type := 4, pos := "law.go:102", after := #[{ on := 17, ground := Ground.data }, { on := 20, ground := Ground.data }, { on := 14, ground := Ground.guard }], guard := some (14, false) }) (u := .bool true) rfl (by decide) (fun T w' hb hd hB K hK => ?sx52) ?rx52
  case sx52 =>
    have e43 := hd 17 43 _ (by decide) (by kernel_rfl) rfl rfl
    replace e43 : T.getD 43 undef = _ := e43
    have e46 := hd 20 46 _ (by decide) (by kernel_rfl) rfl rfl
    replace e46 : T.getD 46 undef = _ := e46
    have eg := hd 14 40 _ (by decide) (by kernel_rfl) rfl rfl
    replace eg : T.getD 40 undef = .bool false := eg
    rw [if_pos (wanted_yes 14 40 false rfl rfl eg)]
    clear eg
    clear hd hB
    go_simp
    exact hK _ (Below.refl _ _)
  refine DetR.is (o := { dst := some 48, op := Op.move (Operand.tmp 47), type := 4, pos := "law.go:102", after := #[{ on := 21, ground := Ground.data }, { on := 20, ground := Ground.chain }, { on := 14, ground := Ground.guard }], guard := some (14, false) }) (u := .bool true) rfl (by decide) (fun T w' hb hd hB K hK => ?sx53) ?rx53
  case sx53 =>
    have e47 := hd 21 47 _ (by decide) (by kernel_rfl) rfl rfl
    replace e47 : T.getD 47 undef = _ := e47
    have eg := hd 14 40 _ (by decide) (by kernel_rfl) rfl rfl
    replace eg : T.getD 40 undef = .bool false := eg
    rw [if_pos (wanted_yes 14 40 false rfl rfl eg)]
    clear eg
    clear hd hB
    go_simp
    exact hK _ (Below.refl _ _)
  refine DetR.is (o := { dst := some 49, op := Op.load 30 (Operand.tmp 7), type := 30, pos := "law.go:102", after := #[{ on := 22, ground := Ground.guard }], guard := some (22, true) }) (u := ?ux54) rfl (by decide) (fun T w' hb hd hB K hK => ?sx54) ?rx54
  case sx54 =>
    have e7 := (hB 7 (by kernel_rfl)).trans hT7
    have q7_0 : w'.cell? ⟨ga, 0, none⟩ = some (xf) := (blk_cell (blk_below hX7 hb) 0).trans rfl
    have q7_1 : w'.cell? ⟨ga, 1, none⟩ = some (xl) := (blk_cell (blk_below hX7 hb) 1).trans rfl
    have eg := hd 22 48 _ (by decide) (by kernel_rfl) rfl rfl
    replace eg : T.getD 48 undef = .bool true := eg
    rw [if_pos (wanted_yes 22 48 true rfl rfl eg)]
    clear eg
    clear hd hB
    go_simp
    exact hK _ (Below.refl _ _)
  refine DetR.is (o := { dst := some 50, op := Op.call { callee := Callee.value (Operand.func 34), args := #[Operand.tmp 49], argTypes := #[30] }, type := 3, pos := "law.go:102", after := #[{ on := 23, ground := Ground.data }, { on := 22, ground := Ground.chain }, { on := 22, ground := Ground.guard }], guard := some (22, true) }) (u := ?ux55) rfl (by decide) (fun T w' hb hd hB K hK => ?sx55) ?rx55
  case sx55 =>
    have e49 := hd 23 49 _ (by decide) (by kernel_rfl) rfl rfl
    replace e49 : T.getD 49 undef = _ := e49
    have eg := hd 22 48 _ (by decide) (by kernel_rfl) rfl rfl
    replace eg : T.getD 48 undef = .bool true := eg
    rw [if_pos (wanted_yes 22 48 true rfl rfl eg)]
    clear eg
    have hcl := hF24 w' hb
    clear hd hB
    go_simp
    go_at_call 34
    refine hcl.mono ?_
    rintro e w2 ⟨rfl, h2⟩
    exact hK _ h2
  refine DetR.is (o := { dst := some 51, op := Op.load 30 (Operand.tmp 8), type := 30, pos := "law.go:102", after := #[{ on := 22, ground := Ground.guard }], guard := some (22, true) }) (u := ?ux56) rfl (by decide) (fun T w' hb hd hB K hK => ?sx56) ?rx56
  case sx56 =>
    have e8 := (hB 8 (by kernel_rfl)).trans hT8
    have q8_0 : w'.cell? ⟨gb, 0, none⟩ = some (yf) := (blk_cell (blk_below hX8 hb) 0).trans rfl
    have q8_1 : w'.cell? ⟨gb, 1, none⟩ = some (yl) := (blk_cell (blk_below hX8 hb) 1).trans rfl
    have eg := hd 22 48 _ (by decide) (by kernel_rfl) rfl rfl
    replace eg : T.getD 48 undef = .bool true := eg
    rw [if_pos (wanted_yes 22 48 true rfl rfl eg)]
    clear eg
    clear hd hB
    go_simp
    exact hK _ (Below.refl _ _)
  refine DetR.is (o := { dst := some 52, op := Op.call { callee := Callee.value (Operand.func 34), args := #[Operand.tmp 51], argTypes := #[30] }, type := 3, pos := "law.go:102", after := #[{ on := 25, ground := Ground.data }, { on := 24, ground := Ground.chain }, { on := 22, ground := Ground.guard }], guard := some (22, true) }) (u := ?ux57) rfl (by decide) (fun T w' hb hd hB K hK => ?sx57) ?rx57
  case sx57 =>
    have e51 := hd 25 51 _ (by decide) (by kernel_rfl) rfl rfl
    replace e51 : T.getD 51 undef = _ := e51
    have eg := hd 22 48 _ (by decide) (by kernel_rfl) rfl rfl
    replace eg : T.getD 48 undef = .bool true := eg
    rw [if_pos (wanted_yes 22 48 true rfl rfl eg)]
    clear eg
    have hcl := hF26 w' hb
    clear hd hB
    go_simp
    go_at_call 34
    refine hcl.mono ?_
    rintro e w2 ⟨rfl, h2⟩
    exact hK _ h2
  refine DetR.is (o := { dst := some 53, op := Op.binOp BinOp.gtr 3 (Operand.tmp 50) (Operand.tmp 52) 3, type := 4, pos := "law.go:102", after := #[{ on := 24, ground := Ground.data }, { on := 26, ground := Ground.data }, { on := 22, ground := Ground.guard }], guard := some (22, true) }) (u := .bool false) rfl (by decide) (fun T w' hb hd hB K hK => ?sx58) ?rx58
  case sx58 =>
    have e50 := hd 24 50 _ (by decide) (by kernel_rfl) rfl rfl
    replace e50 : T.getD 50 undef = _ := e50
    have e52 := hd 26 52 _ (by decide) (by kernel_rfl) rfl rfl
    replace e52 : T.getD 52 undef = _ := e52
    have eg := hd 22 48 _ (by decide) (by kernel_rfl) rfl rfl
    replace eg : T.getD 48 undef = .bool true := eg
    rw [if_pos (wanted_yes 22 48 true rfl rfl eg)]
    clear eg
    clear hd hB
    go_simp
    have hq : decide (ny < nx) = false := decide_eq_false (by omega)
    try rw [hq]
    exact hK _ (Below.refl _ _)
  refine DetR.is (o := { dst := some 54, op := Op.pick (Operand.tmp 48) (Operand.tmp 53) (Operand.const (Value.bool false)), type := 4, pos := "law.go:102", after := #[{ on := 22, ground := Ground.data }, { on := 27, ground := Ground.data }, { on := 14, ground := Ground.guard }], guard := some (14, false) }) (u := .bool false) rfl (by decide) (fun T w' hb hd hB K hK => ?sx59) ?rx59
  case sx59 =>
    have e48 := hd 22 48 _ (by decide) (by kernel_rfl) rfl rfl
    replace e48 : T.getD 48 undef = _ := e48
    have e53 := hd 27 53 _ (by decide) (by kernel_rfl) rfl rfl
    replace e53 : T.getD 53 undef = _ := e53
    have eg := hd 14 40 _ (by decide) (by kernel_rfl) rfl rfl
    replace eg : T.getD 40 undef = .bool false := eg
    rw [if_pos (wanted_yes 14 40 false rfl rfl eg)]
    clear eg
    clear hd hB
    go_simp
    exact hK _ (Below.refl _ _)
  refine DetR.is (o := { dst := some 55, op := Op.pick (Operand.tmp 40) (Operand.const (Value.bool true)) (Operand.tmp 54), type := 4, pos := "law.go:102", after := #[{ on := 14, ground := Ground.data }, { on := 28, ground := Ground.data }], guard := none }) (u := .bool false) rfl (by decide) (fun T w' hb hd hB K hK => ?sx60) ?rx60
  case sx60 =>
    have e40 := hd 14 40 _ (by decide) (by kernel_rfl) rfl rfl
    replace e40 : T.getD 40 undef = _ := e40
    have e54 := hd 28 54 _ (by decide) (by kernel_rfl) rfl rfl
    replace e54 : T.getD 54 undef = _ := e54
    rw [if_pos (wanted_none _ rfl)]
    clear hd hB
    go_simp
    exact hK _ (Below.refl _ _)
  refine DetR.done [some 26, some 27, some 28, some 29, some 30, some 31, some 32, some 33, some 34, some 35, some 36, some 37, some 38, some 39, some 40, some 41, some 42, some 43, some 44, some 45, some 46, some 47, some 48, some 49, some 50, some 51, some 52, some 53, some 54, some 55] (by kernel_rfl) rfl (by kernel_rfl) ?_
  intro v w' hb hv
  exact hK v w' hb (hv 29 _ (by decide) rfl)
set_option maxHeartbeats 4000000 in
set_option maxRecDepth 100000 in
theorem KboSizes_r7ff {id : Nat} {a : Act} {w : World} {Q : Exit → Act → World → Prop} {ga gb nx ny : Nat} {xf xl yf yl : Value}
    (hr : regionOk #[{ dst := some 26, op := Op.move (Operand.tmp 9), type := 4, pos := "law.go:102", after := #[], guard := none }, { dst := some 27, op := Op.move (Operand.tmp 26), type := 4, pos := "law.go:102", after := #[{ on := 0, ground := Ground.data }], guard := none }, { dst := some 28, op := Op.load 30 (Operand.tmp 7), type := 30, pos := "law.go:102", after := #[{ on := 1, ground := Ground.guard }], guard := some (1, true) }, { dst := some 29, op := Op.call { callee := Callee.value (Operand.func 34), args := #[Operand.tmp 28], argTypes := #[30] }, type := 3, pos := "law.go:102", after := #[{ on := 2, ground := Ground.data }, { on := 1, ground := Ground.chain }, { on := 1, ground := Ground.guard }], guard := some (1, true) }, { dst := some 30, op := Op.load 30 (Operand.tmp 8), type := 30, pos := "law.go:102", after := #[{ on := 1, ground := Ground.guard }], guard := some (1, true) }, { dst := some 31, op := Op.call { callee := Callee.value (Operand.func 34), args := #[Operand.tmp 30], argTypes := #[30] }, type := 3, pos := "law.go:102", after := #[{ on := 4, ground := Ground.data }, { on := 3, ground := Ground.chain }, { on := 1, ground := Ground.guard }], guard := some (1, true) }, { dst := some 32, op := Op.binOp BinOp.lss 3 (Operand.tmp 29) (Operand.tmp 31) 3, type := 4, pos := "law.go:102", after := #[{ on := 3, ground := Ground.data }, { on := 5, ground := Ground.data }, { on := 1, ground := Ground.guard }], guard := some (1, true) }, { dst := some 33, op := Op.move (Operand.tmp 32), type := 4, pos := "law.go:102", after := #[{ on := 6, ground := Ground.data }, { on := 5, ground := Ground.chain }, { on := 1, ground := Ground.guard }], guard := some (1, true) }, { dst := some 34, op := Op.load 30 (Operand.tmp 7), type := 30, pos := "law.go:102", after := #[{ on := 7, ground := Ground.guard }], guard := some (7, false) }, { dst := some 35, op := Op.load 30 (Operand.tmp 8), type := 30, pos := "law.go:102", after := #[{ on := 7, ground := Ground.guard }], guard := some (7, false) }, { dst := some 36, op := Op.call { callee := Callee.value (Operand.func 45), args := #[Operand.tmp 34, Operand.tmp 35], argTypes := #[30, 30] }, type := 4, pos := "law.go:102", after := #[{ on := 8, ground := Ground.data }, { on := 9, ground := Ground.data }, { on := 7, ground := Ground.chain }, { on := 7, ground := Ground.guard }], guard := some (7, false) }, { dst := some 37, op := Op.unOp UnOp.not 4 (Operand.tmp 36), type := 4, pos := "law.go:102", after := #[{ on := 10, ground := Ground.data }, { on := 7, ground := Ground.guard }], guard := some (7, false) }, { dst := some 38, op := Op.pick (Operand.tmp 33) (Operand.const (Value.bool true)) (Operand.tmp 37), type := 4, pos := "law.go:102", after := #[{ on := 7, ground := Ground.data }, { on := 11, ground := Ground.data }, { on := 1, ground := Ground.guard }], guard := some (1, true) }, { dst := some 39, op := Op.pick (Operand.tmp 27) (Operand.tmp 38) (Operand.const (Value.bool false)), type := 4, pos := "law.go:102", after := #[{ on := 1, ground := Ground.data }, { on := 12, ground := Ground.data }], guard := none }, { dst := some 40, op := Op.move (Operand.tmp 39), type := 4, pos := "law.go:102", after := #[{ on := 13, ground := Ground.data }, { on := 10, ground := Ground.chain }], guard := none }, { dst := some 41, op := Op.move (Operand.tmp 9), type := 4, pos := "law.go:102", after := #[{ on := 14, ground := Ground.guard }], guard := some (14, false) }, { dst := some 42, op := Op.unOp UnOp.not 4 (Operand.tmp 41), type := 4, pos := "law.go:102", after := #[{ on := 15, ground := Ground.data }, { on := 14, ground := Ground.guard }], guard := some (14, false) }, { dst := some 43, op := Op.move (Operand.tmp 42), type := 4, pos := "law.go:102", after := #[{ on := 16, ground := Ground.data }, { on := 14, ground := Ground.chain }, { on := 14, ground := Ground.guard }], guard := some (14, false) }, { dst := some 44, op := Op.load 30 (Operand.tmp 7), type := 30, pos := "law.go:102", after := #[{ on := 17, ground := Ground.guard }], guard := some (17, true) }, { dst := some 45, op := Op.load 30 (Operand.tmp 8), type := 30, pos := "law.go:102", after := #[{ on := 17, ground := Ground.guard }], guard := some (17, true) }, { dst := some 46, op := Op.call { callee := Callee.value (Operand.func 45), args := #[Operand.tmp 44, Operand.tmp 45], argTypes := #[30, 30] }, type := 4, pos := "law.go:102", after := #[{ on := 18, ground := Ground.data }, { on := 19, ground := Ground.data }, { on := 17, ground := Ground.chain }, { on := 17, ground := Ground.guard }], guard := some (17, true) }, { dst := some 47, op := Op.pick (Operand.tmp 43) (Operand.tmp 46) (Operand.const (Value.bool false)), type := 4, pos := "law.go:102", after := #[{ on := 17, ground := Ground.data }, { on := 20, ground := Ground.data }, { on := 14, ground := Ground.guard }], guard := some (14, false) }, { dst := some 48, op := Op.move (Operand.tmp 47), type := 4, pos := "law.go:102", after := #[{ on := 21, ground := Ground.data }, { on := 20, ground := Ground.chain }, { on := 14, ground := Ground.guard }], guard := some (14, false) }, { dst := some 49, op := Op.load 30 (Operand.tmp 7), type := 30, pos := "law.go:102", after := #[{ on := 22, ground := Ground.guard }], guard := some (22, true) }, { dst := some 50, op := Op.call { callee := Callee.value (Operand.func 34), args := #[Operand.tmp 49], argTypes := #[30] }, type := 3, pos := "law.go:102", after := #[{ on := 23, ground := Ground.data }, { on := 22, ground := Ground.chain }, { on := 22, ground := Ground.guard }], guard := some (22, true) }, { dst := some 51, op := Op.load 30 (Operand.tmp 8), type := 30, pos := "law.go:102", after := #[{ on := 22, ground := Ground.guard }], guard := some (22, true) }, { dst := some 52, op := Op.call { callee := Callee.value (Operand.func 34), args := #[Operand.tmp 51], argTypes := #[30] }, type := 3, pos := "law.go:102", after := #[{ on := 25, ground := Ground.data }, { on := 24, ground := Ground.chain }, { on := 22, ground := Ground.guard }], guard := some (22, true) }, { dst := some 53, op := Op.binOp BinOp.gtr 3 (Operand.tmp 50) (Operand.tmp 52) 3, type := 4, pos := "law.go:102", after := #[{ on := 24, ground := Ground.data }, { on := 26, ground := Ground.data }, { on := 22, ground := Ground.guard }], guard := some (22, true) }, { dst := some 54, op := Op.pick (Operand.tmp 48) (Operand.tmp 53) (Operand.const (Value.bool false)), type := 4, pos := "law.go:102", after := #[{ on := 22, ground := Ground.data }, { on := 27, ground := Ground.data }, { on := 14, ground := Ground.guard }], guard := some (14, false) }, { dst := some 55, op := Op.pick (Operand.tmp 40) (Operand.const (Value.bool true)) (Operand.tmp 54), type := 4, pos := "law.go:102", after := #[{ on := 14, ground := Ground.data }, { on := 28, ground := Ground.data }], guard := none }] a.tmps.size = true)
    (hT9 : a.tmps.getD 9 undef = .bool false)
    (hT7 : a.tmps.getD 7 undef = .pointer (some ⟨ga, 0, none⟩)) (hX7 : w.heap[ga]? = some (.cells #[xf, xl] 30 (0, 0)))
    (hT8 : a.tmps.getD 8 undef = .pointer (some ⟨gb, 0, none⟩)) (hX8 : w.heap[gb]? = some (.cells #[yf, yl] 30 (0, 0)))
    (hF20 : ∀ w1, Below w.heap.size w w1 → Calls Try.prog 45 #[.agg #[xf, xl], .agg #[yf, yl]] w1 fun e w2 => e = .returned (.bool false) ∧ Below w1.heap.size w1 w2)
    (hn : nx ≤ ny)
    (hK : ∀ v w', Below w.heap.size w w' → v 29 = .bool false → Q .normal { tmps := layL [some 26, some 27, some 28, some 29, some 30, some 31, some 32, some 33, some 34, some 35, some 36, some 37, some 38, some 39, some 40, some 41, some 42, some 43, some 44, some 45, some 46, some 47, some 48, some 49, some 50, some 51, some 52, some 53, some 54, some 55] 0 v a.tmps, defers := a.defers } w') :
    (Code.region id #[{ dst := some 26, op := Op.move (Operand.tmp 9), type := 4, pos := "law.go:102", after := #[], guard := none }, { dst := some 27, op := Op.move (Operand.tmp 26), type := 4, pos := "law.go:102", after := #[{ on := 0, ground := Ground.data }], guard := none }, { dst := some 28, op := Op.load 30 (Operand.tmp 7), type := 30, pos := "law.go:102", after := #[{ on := 1, ground := Ground.guard }], guard := some (1, true) }, { dst := some 29, op := Op.call { callee := Callee.value (Operand.func 34), args := #[Operand.tmp 28], argTypes := #[30] }, type := 3, pos := "law.go:102", after := #[{ on := 2, ground := Ground.data }, { on := 1, ground := Ground.chain }, { on := 1, ground := Ground.guard }], guard := some (1, true) }, { dst := some 30, op := Op.load 30 (Operand.tmp 8), type := 30, pos := "law.go:102", after := #[{ on := 1, ground := Ground.guard }], guard := some (1, true) }, { dst := some 31, op := Op.call { callee := Callee.value (Operand.func 34), args := #[Operand.tmp 30], argTypes := #[30] }, type := 3, pos := "law.go:102", after := #[{ on := 4, ground := Ground.data }, { on := 3, ground := Ground.chain }, { on := 1, ground := Ground.guard }], guard := some (1, true) }, { dst := some 32, op := Op.binOp BinOp.lss 3 (Operand.tmp 29) (Operand.tmp 31) 3, type := 4, pos := "law.go:102", after := #[{ on := 3, ground := Ground.data }, { on := 5, ground := Ground.data }, { on := 1, ground := Ground.guard }], guard := some (1, true) }, { dst := some 33, op := Op.move (Operand.tmp 32), type := 4, pos := "law.go:102", after := #[{ on := 6, ground := Ground.data }, { on := 5, ground := Ground.chain }, { on := 1, ground := Ground.guard }], guard := some (1, true) }, { dst := some 34, op := Op.load 30 (Operand.tmp 7), type := 30, pos := "law.go:102", after := #[{ on := 7, ground := Ground.guard }], guard := some (7, false) }, { dst := some 35, op := Op.load 30 (Operand.tmp 8), type := 30, pos := "law.go:102", after := #[{ on := 7, ground := Ground.guard }], guard := some (7, false) }, { dst := some 36, op := Op.call { callee := Callee.value (Operand.func 45), args := #[Operand.tmp 34, Operand.tmp 35], argTypes := #[30, 30] }, type := 4, pos := "law.go:102", after := #[{ on := 8, ground := Ground.data }, { on := 9, ground := Ground.data }, { on := 7, ground := Ground.chain }, { on := 7, ground := Ground.guard }], guard := some (7, false) }, { dst := some 37, op := Op.unOp UnOp.not 4 (Operand.tmp 36), type := 4, pos := "law.go:102", after := #[{ on := 10, ground := Ground.data }, { on := 7, ground := Ground.guard }], guard := some (7, false) }, { dst := some 38, op := Op.pick (Operand.tmp 33) (Operand.const (Value.bool true)) (Operand.tmp 37), type := 4, pos := "law.go:102", after := #[{ on := 7, ground := Ground.data }, { on := 11, ground := Ground.data }, { on := 1, ground := Ground.guard }], guard := some (1, true) }, { dst := some 39, op := Op.pick (Operand.tmp 27) (Operand.tmp 38) (Operand.const (Value.bool false)), type := 4, pos := "law.go:102", after := #[{ on := 1, ground := Ground.data }, { on := 12, ground := Ground.data }], guard := none }, { dst := some 40, op := Op.move (Operand.tmp 39), type := 4, pos := "law.go:102", after := #[{ on := 13, ground := Ground.data }, { on := 10, ground := Ground.chain }], guard := none }, { dst := some 41, op := Op.move (Operand.tmp 9), type := 4, pos := "law.go:102", after := #[{ on := 14, ground := Ground.guard }], guard := some (14, false) }, { dst := some 42, op := Op.unOp UnOp.not 4 (Operand.tmp 41), type := 4, pos := "law.go:102", after := #[{ on := 15, ground := Ground.data }, { on := 14, ground := Ground.guard }], guard := some (14, false) }, { dst := some 43, op := Op.move (Operand.tmp 42), type := 4, pos := "law.go:102", after := #[{ on := 16, ground := Ground.data }, { on := 14, ground := Ground.chain }, { on := 14, ground := Ground.guard }], guard := some (14, false) }, { dst := some 44, op := Op.load 30 (Operand.tmp 7), type := 30, pos := "law.go:102", after := #[{ on := 17, ground := Ground.guard }], guard := some (17, true) }, { dst := some 45, op := Op.load 30 (Operand.tmp 8), type := 30, pos := "law.go:102", after := #[{ on := 17, ground := Ground.guard }], guard := some (17, true) }, { dst := some 46, op := Op.call { callee := Callee.value (Operand.func 45), args := #[Operand.tmp 44, Operand.tmp 45], argTypes := #[30, 30] }, type := 4, pos := "law.go:102", after := #[{ on := 18, ground := Ground.data }, { on := 19, ground := Ground.data }, { on := 17, ground := Ground.chain }, { on := 17, ground := Ground.guard }], guard := some (17, true) }, { dst := some 47, op := Op.pick (Operand.tmp 43) (Operand.tmp 46) (Operand.const (Value.bool false)), type := 4, pos := "law.go:102", after := #[{ on := 17, ground := Ground.data }, { on := 20, ground := Ground.data }, { on := 14, ground := Ground.guard }], guard := some (14, false) }, { dst := some 48, op := Op.move (Operand.tmp 47), type := 4, pos := "law.go:102", after := #[{ on := 21, ground := Ground.data }, { on := 20, ground := Ground.chain }, { on := 14, ground := Ground.guard }], guard := some (14, false) }, { dst := some 49, op := Op.load 30 (Operand.tmp 7), type := 30, pos := "law.go:102", after := #[{ on := 22, ground := Ground.guard }], guard := some (22, true) }, { dst := some 50, op := Op.call { callee := Callee.value (Operand.func 34), args := #[Operand.tmp 49], argTypes := #[30] }, type := 3, pos := "law.go:102", after := #[{ on := 23, ground := Ground.data }, { on := 22, ground := Ground.chain }, { on := 22, ground := Ground.guard }], guard := some (22, true) }, { dst := some 51, op := Op.load 30 (Operand.tmp 8), type := 30, pos := "law.go:102", after := #[{ on := 22, ground := Ground.guard }], guard := some (22, true) }, { dst := some 52, op := Op.call { callee := Callee.value (Operand.func 34), args := #[Operand.tmp 51], argTypes := #[30] }, type := 3, pos := "law.go:102", after := #[{ on := 25, ground := Ground.data }, { on := 24, ground := Ground.chain }, { on := 22, ground := Ground.guard }], guard := some (22, true) }, { dst := some 53, op := Op.binOp BinOp.gtr 3 (Operand.tmp 50) (Operand.tmp 52) 3, type := 4, pos := "law.go:102", after := #[{ on := 24, ground := Ground.data }, { on := 26, ground := Ground.data }, { on := 22, ground := Ground.guard }], guard := some (22, true) }, { dst := some 54, op := Op.pick (Operand.tmp 48) (Operand.tmp 53) (Operand.const (Value.bool false)), type := 4, pos := "law.go:102", after := #[{ on := 22, ground := Ground.data }, { on := 27, ground := Ground.data }, { on := 14, ground := Ground.guard }], guard := some (14, false) }, { dst := some 55, op := Op.pick (Operand.tmp 40) (Operand.const (Value.bool true)) (Operand.tmp 54), type := 4, pos := "law.go:102", after := #[{ on := 14, ground := Ground.data }, { on := 28, ground := Ground.data }], guard := none }] true).wp Try.prog Q a w := by
  have hmx : Try.prog.follows .mixedOrders = true := by kernel_rfl
  refine region_detR 30 hmx hr (by kernel_rfl) ?_
  refine DetR.is (o := { dst := some 26, op := Op.move (Operand.tmp 9), type := 4, pos := "law.go:102", after := #[], guard := none }) (u := ?ux61) rfl (by decide) (fun T w' hb hd hB K hK => ?sx61) ?rx61
  case sx61 =>
    have e9 := (hB 9 (by kernel_rfl)).trans hT9
    rw [if_pos (wanted_none _ rfl)]
    clear hd hB
    go_simp
    exact hK _ (Below.refl _ _)
  refine DetR.is (o := { dst := some 27, op := Op.move (Operand.tmp 26), type := 4, pos := "law.go:102", after := #[{ on := 0, ground := Ground.data }], guard := none }) (u := .bool false) rfl (by decide) (fun T w' hb hd hB K hK => ?sx62) ?rx62
  case sx62 =>
    have e26 := hd 0 26 _ (by decide) (by kernel_rfl) rfl rfl
    replace e26 : T.getD 26 undef = _ := e26
    rw [if_pos (wanted_none _ rfl)]
    clear hd hB
    go_simp
    exact hK _ (Below.refl _ _)
  refine DetR.is (o := { dst := some 28, op := Op.load 30 (Operand.tmp 7), type := 30, pos := "law.go:102", after := #[{ on := 1, ground := Ground.guard }], guard := some (1, true) }) (u := ?ux63) rfl (by decide) (fun T w' hb hd hB K hK => ?sx63) ?rx63
  case sx63 =>
    have e7 := (hB 7 (by kernel_rfl)).trans hT7
    have q7_0 : w'.cell? ⟨ga, 0, none⟩ = some (xf) := (blk_cell (blk_below hX7 hb) 0).trans rfl
    have q7_1 : w'.cell? ⟨ga, 1, none⟩ = some (xl) := (blk_cell (blk_below hX7 hb) 1).trans rfl
    have eg := hd 1 27 _ (by decide) (by kernel_rfl) rfl rfl
    replace eg : T.getD 27 undef = .bool false := eg
    rw [if_neg (wanted_no 1 27 false rfl rfl eg)]
    exact hK _ (Below.refl _ _)
  refine DetR.is (o := { dst := some 29, op := Op.call { callee := Callee.value (Operand.func 34), args := #[Operand.tmp 28], argTypes := #[30] }, type := 3, pos := "law.go:102", after := #[{ on := 2, ground := Ground.data }, { on := 1, ground := Ground.chain }, { on := 1, ground := Ground.guard }], guard := some (1, true) }) (u := ?ux64) rfl (by decide) (fun T w' hb hd hB K hK => ?sx64) ?rx64
  case sx64 =>
    have e28 := hd 2 28 _ (by decide) (by kernel_rfl) rfl rfl
    replace e28 : T.getD 28 undef = _ := e28
    have eg := hd 1 27 _ (by decide) (by kernel_rfl) rfl rfl
    replace eg : T.getD 27 undef = .bool false := eg
    rw [if_neg (wanted_no 1 27 false rfl rfl eg)]
    exact hK _ (Below.refl _ _)
  refine DetR.is (o := { dst := some 30, op := Op.load 30 (Operand.tmp 8), type := 30, pos := "law.go:102", after := #[{ on := 1, ground := Ground.guard }], guard := some (1, true) }) (u := ?ux65) rfl (by decide) (fun T w' hb hd hB K hK => ?sx65) ?rx65
  case sx65 =>
    have e8 := (hB 8 (by kernel_rfl)).trans hT8
    have q8_0 : w'.cell? ⟨gb, 0, none⟩ = some (yf) := (blk_cell (blk_below hX8 hb) 0).trans rfl
    have q8_1 : w'.cell? ⟨gb, 1, none⟩ = some (yl) := (blk_cell (blk_below hX8 hb) 1).trans rfl
    have eg := hd 1 27 _ (by decide) (by kernel_rfl) rfl rfl
    replace eg : T.getD 27 undef = .bool false := eg
    rw [if_neg (wanted_no 1 27 false rfl rfl eg)]
    exact hK _ (Below.refl _ _)
  refine DetR.is (o := { dst := some 31, op := Op.call { callee := Callee.value (Operand.func 34), args := #[Operand.tmp 30], argTypes := #[30] }, type := 3, pos := "law.go:102", after := #[{ on := 4, ground := Ground.data }, { on := 3, ground := Ground.chain }, { on := 1, ground := Ground.guard }], guard := some (1, true) }) (u := ?ux66) rfl (by decide) (fun T w' hb hd hB K hK => ?sx66) ?rx66
  case sx66 =>
    have e30 := hd 4 30 _ (by decide) (by kernel_rfl) rfl rfl
    replace e30 : T.getD 30 undef = _ := e30
    have eg := hd 1 27 _ (by decide) (by kernel_rfl) rfl rfl
    replace eg : T.getD 27 undef = .bool false := eg
    rw [if_neg (wanted_no 1 27 false rfl rfl eg)]
    exact hK _ (Below.refl _ _)
  refine DetR.is (o := { dst := some 32, op := Op.binOp BinOp.lss 3 (Operand.tmp 29) (Operand.tmp 31) 3, type := 4, pos := "law.go:102", after := #[{ on := 3, ground := Ground.data }, { on := 5, ground := Ground.data }, { on := 1, ground := Ground.guard }], guard := some (1, true) }) (u := ?ux67) rfl (by decide) (fun T w' hb hd hB K hK => ?sx67) ?rx67
  case sx67 =>
    have e29 := hd 3 29 _ (by decide) (by kernel_rfl) rfl rfl
    replace e29 : T.getD 29 undef = _ := e29
    have e31 := hd 5 31 _ (by decide) (by kernel_rfl) rfl rfl
    replace e31 : T.getD 31 undef = _ := e31
    have eg := hd 1 27 _ (by decide) (by kernel_rfl) rfl rfl
    replace eg : T.getD 27 undef = .bool false := eg
    rw [if_neg (wanted_no 1 27 false rfl rfl eg)]
    exact hK _ (Below.refl _ _)
  refine DetR.is (o := { dst := some 33, op := Op.move (Operand.tmp 32), type := 4, pos := "law.go:102", after := #[{ on := 6, ground := Ground.data }, { on := 5, ground := Ground.chain }, { on := 1, ground := Ground.guard }], guard := some (1, true) }) (u := ?ux68) rfl (by decide) (fun T w' hb hd hB K hK => ?sx68) ?rx68
  case sx68 =>
    have e32 := hd 6 32 _ (by decide) (by kernel_rfl) rfl rfl
    replace e32 : T.getD 32 undef = _ := e32
    have eg := hd 1 27 _ (by decide) (by kernel_rfl) rfl rfl
    replace eg : T.getD 27 undef = .bool false := eg
    rw [if_neg (wanted_no 1 27 false rfl rfl eg)]
    exact hK _ (Below.refl _ _)
  refine DetR.is (o := { dst := some 34, op := Op.load 30 (Operand.tmp 7), type := 30, pos := "law.go:102", after := #[{ on := 7, ground := Ground.guard }], guard := some (7, false) }) (u := ?ux69) rfl (by decide) (fun T w' hb hd hB K hK => ?sx69) ?rx69
  case sx69 =>
    have e7 := (hB 7 (by kernel_rfl)).trans hT7
    have q7_0 : w'.cell? ⟨ga, 0, none⟩ = some (xf) := (blk_cell (blk_below hX7 hb) 0).trans rfl
    have q7_1 : w'.cell? ⟨ga, 1, none⟩ = some (xl) := (blk_cell (blk_below hX7 hb) 1).trans rfl
    have eg := hd 7 33 _ (by decide) (by kernel_rfl) rfl rfl
    rw [if_neg (wanted_undef 7 33 rfl rfl eg)]
    exact hK _ (Below.refl _ _)
  refine DetR.is (o := { dst := some 35, op := Op.load 30 (Operand.tmp 8), type := 30, pos := "law.go:102", after := #[{ on := 7, ground := Ground.guard }], guard := some (7, false) }) (u := ?ux70) rfl (by decide) (fun T w' hb hd hB K hK => ?sx70) ?rx70
  case sx70 =>
    have e8 := (hB 8 (by kernel_rfl)).trans hT8
    have q8_0 : w'.cell? ⟨gb, 0, none⟩ = some (yf) := (blk_cell (blk_below hX8 hb) 0).trans rfl
    have q8_1 : w'.cell? ⟨gb, 1, none⟩ = some (yl) := (blk_cell (blk_below hX8 hb) 1).trans rfl
    have eg := hd 7 33 _ (by decide) (by kernel_rfl) rfl rfl
    rw [if_neg (wanted_undef 7 33 rfl rfl eg)]
    exact hK _ (Below.refl _ _)
  refine DetR.is (o := { dst := some 36, op := Op.call { callee := Callee.value (Operand.func 45), args := #[Operand.tmp 34, Operand.tmp 35], argTypes := #[30, 30] }, type := 4, pos := "law.go:102", after := #[{ on := 8, ground := Ground.data }, { on := 9, ground := Ground.data }, { on := 7, ground := Ground.chain }, { on := 7, ground := Ground.guard }], guard := some (7, false) }) (u := ?ux71) rfl (by decide) (fun T w' hb hd hB K hK => ?sx71) ?rx71
  case sx71 =>
    have e34 := hd 8 34 _ (by decide) (by kernel_rfl) rfl rfl
    replace e34 : T.getD 34 undef = _ := e34
    have e35 := hd 9 35 _ (by decide) (by kernel_rfl) rfl rfl
    replace e35 : T.getD 35 undef = _ := e35
    have eg := hd 7 33 _ (by decide) (by kernel_rfl) rfl rfl
    rw [if_neg (wanted_undef 7 33 rfl rfl eg)]
    exact hK _ (Below.refl _ _)
  refine DetR.is (o := { dst := some 37, op := Op.unOp UnOp.not 4 (Operand.tmp 36), type := 4, pos := "law.go:102", after := #[{ on := 10, ground := Ground.data }, { on := 7, ground := Ground.guard }], guard := some (7, false) }) (u := ?ux72) rfl (by decide) (fun T w' hb hd hB K hK => ?sx72) ?rx72
  case sx72 =>
    have e36 := hd 10 36 _ (by decide) (by kernel_rfl) rfl rfl
    replace e36 : T.getD 36 undef = _ := e36
    have eg := hd 7 33 _ (by decide) (by kernel_rfl) rfl rfl
    rw [if_neg (wanted_undef 7 33 rfl rfl eg)]
    exact hK _ (Below.refl _ _)
  refine DetR.is (o := { dst := some 38, op := Op.pick (Operand.tmp 33) (Operand.const (Value.bool true)) (Operand.tmp 37), type := 4, pos := "law.go:102", after := #[{ on := 7, ground := Ground.data }, { on := 11, ground := Ground.data }, { on := 1, ground := Ground.guard }], guard := some (1, true) }) (u := ?ux73) rfl (by decide) (fun T w' hb hd hB K hK => ?sx73) ?rx73
  case sx73 =>
    have e33 := hd 7 33 _ (by decide) (by kernel_rfl) rfl rfl
    replace e33 : T.getD 33 undef = _ := e33
    have e37 := hd 11 37 _ (by decide) (by kernel_rfl) rfl rfl
    replace e37 : T.getD 37 undef = _ := e37
    have eg := hd 1 27 _ (by decide) (by kernel_rfl) rfl rfl
    replace eg : T.getD 27 undef = .bool false := eg
    rw [if_neg (wanted_no 1 27 false rfl rfl eg)]
    exact hK _ (Below.refl _ _)
  refine DetR.is (o := { dst := some 39, op := Op.pick (Operand.tmp 27) (Operand.tmp 38) (Operand.const (Value.bool false)), type := 4, pos := "law.go:102", after := #[{ on := 1, ground := Ground.data }, { on := 12, ground := Ground.data }], guard := none }) (u := .bool false) rfl (by decide) (fun T w' hb hd hB K hK => ?sx74) ?rx74
  case sx74 =>
    have e27 := hd 1 27 _ (by decide) (by kernel_rfl) rfl rfl
    replace e27 : T.getD 27 undef = _ := e27
    have e38 := hd 12 38 _ (by decide) (by kernel_rfl) rfl rfl
    replace e38 : T.getD 38 undef = _ := e38
    rw [if_pos (wanted_none _ rfl)]
    clear hd hB
    go_simp
    exact hK _ (Below.refl _ _)
  refine DetR.is (o := { dst := some 40, op := Op.move (Operand.tmp 39), type := 4, pos := "law.go:102", after := #[{ on := 13, ground := Ground.data }, { on := 10, ground := Ground.chain }], guard := none }) (u := .bool false) rfl (by decide) (fun T w' hb hd hB K hK => ?sx75) ?rx75
  case sx75 =>
    have e39 := hd 13 39 _ (by decide) (by kernel_rfl) rfl rfl
    replace e39 : T.getD 39 undef = _ := e39
    rw [if_pos (wanted_none _ rfl)]
    clear hd hB
    go_simp
    exact hK _ (Below.refl _ _)
  refine DetR.is (o := { dst := some 41, op := Op.move (Operand.tmp 9), type := 4, pos := "law.go:102", after := #[{ on := 14, ground := Ground.guard }], guard := some (14, false) }) (u := ?ux76) rfl (by decide) (fun T w' hb hd hB K hK => ?sx76) ?rx76
  case sx76 =>
    have e9 := (hB 9 (by kernel_rfl)).trans hT9
    have eg := hd 14 40 _ (by decide) (by kernel_rfl) rfl rfl
    replace eg : T.getD 40 undef = .bool false := eg
    rw [if_pos (wanted_yes 14 40 false rfl rfl eg)]
    clear eg
    clear hd hB
    go_simp
    exact hK _ (Below.refl _ _)
  refine DetR.is (o := { dst := some 42, op := Op.unOp UnOp.not 4 (Operand.tmp 41), type := 4, pos := "law.go:102", after := #[{ on := 15, ground := Ground.data }, { on := 14, ground := Ground.guard }], guard := some (14, false) }) (u := .bool true) rfl (by decide) (fun T w' hb hd hB K hK => ?sx77) ?rx77
  case sx77 =>
    have e41 := hd 15 41 _ (by decide) (by kernel_rfl) rfl rfl
    replace e41 : T.getD 41 undef = _ := e41
    have eg := hd 14 40 _ (by decide) (by kernel_rfl) rfl rfl
    replace eg : T.getD 40 undef = .bool false := eg
    rw [if_pos (wanted_yes 14 40 false rfl rfl eg)]
    clear eg
    clear hd hB
    go_simp
    exact hK _ (Below.refl _ _)
  refine DetR.is (o := { dst := some 43, op := Op.move (Operand.tmp 42), type := 4, pos := "law.go:102", after := #[{ on := 16, ground := Ground.data }, { on := 14, ground := Ground.chain }, { on := 14, ground := Ground.guard }], guard := some (14, false) }) (u := .bool true) rfl (by decide) (fun T w' hb hd hB K hK => ?sx78) ?rx78
  case sx78 =>
    have e42 := hd 16 42 _ (by decide) (by kernel_rfl) rfl rfl
    replace e42 : T.getD 42 undef = _ := e42
    have eg := hd 14 40 _ (by decide) (by kernel_rfl) rfl rfl
    replace eg : T.getD 40 undef = .bool false := eg
    rw [if_pos (wanted_yes 14 40 false rfl rfl eg)]
    clear eg
    clear hd hB
    go_simp
    exact hK _ (Below.refl _ _)
  refine DetR.is (o := { dst := some 44, op := Op.load 30 (Operand.tmp 7), type := 30, pos := "law.go:102", after := #[{ on := 17, ground := Ground.guard }], guard := some (17, true) }) (u := ?ux79) rfl (by decide) (fun T w' hb hd hB K hK => ?sx79) ?rx79
  case sx79 =>
    have e7 := (hB 7 (by kernel_rfl)).trans hT7
    have q7_0 : w'.cell? ⟨ga, 0, none⟩ = some (xf) := (blk_cell (blk_below hX7 hb) 0).trans rfl
    have q7_1 : w'.cell? ⟨ga, 1, none⟩ = some (xl) := (blk_cell (blk_below hX7 hb) 1).trans rfl
    have eg := hd 17 43 _ (by decide) (by kernel_rfl) rfl rfl
    replace eg : T.getD 43 undef = .bool true := eg
    rw [if_pos (wanted_yes 17 43 true rfl rfl eg)]
    clear eg
    clear hd hB
    go_simp
    exact hK _ (Below.refl _ _)
  refine DetR.is (o := { dst := some 45, op := Op.load 30 (Operand.tmp 8), type := 30, pos := "law.go:102", after := #[{ on := 17, ground := Ground.guard }], guard := some (17, true) }) (u := ?ux80) rfl (by decide) (fun T w' hb hd hB K hK => ?sx80) ?rx80
  case sx80 =>
    have e8 := (hB 8 (by kernel_rfl)).trans hT8
    have q8_0 : w'.cell? ⟨gb, 0, none⟩ = some (yf) := (blk_cell (blk_below hX8 hb) 0).trans rfl
    have q8_1 : w'.cell? ⟨gb, 1, none⟩ = some (yl) := (blk_cell (blk_below hX8 hb) 1).trans rfl
    have eg := hd 17 43 _ (by decide) (by kernel_rfl) rfl rfl
    replace eg : T.getD 43 undef = .bool true := eg
    rw [if_pos (wanted_yes 17 43 true rfl rfl eg)]
    clear eg
    clear hd hB
    go_simp
    exact hK _ (Below.refl _ _)
  refine DetR.is (o := { dst := some 46, op := Op.call { callee := Callee.value (Operand.func 45), args := #[Operand.tmp 44, Operand.tmp 45], argTypes := #[30, 30] }, type := 4, pos := "law.go:102", after := #[{ on := 18, ground := Ground.data }, { on := 19, ground := Ground.data }, { on := 17, ground := Ground.chain }, { on := 17, ground := Ground.guard }], guard := some (17, true) }) (u := ?ux81) rfl (by decide) (fun T w' hb hd hB K hK => ?sx81) ?rx81
  case sx81 =>
    have e44 := hd 18 44 _ (by decide) (by kernel_rfl) rfl rfl
    replace e44 : T.getD 44 undef = _ := e44
    have e45 := hd 19 45 _ (by decide) (by kernel_rfl) rfl rfl
    replace e45 : T.getD 45 undef = _ := e45
    have eg := hd 17 43 _ (by decide) (by kernel_rfl) rfl rfl
    replace eg : T.getD 43 undef = .bool true := eg
    rw [if_pos (wanted_yes 17 43 true rfl rfl eg)]
    clear eg
    have hcl := hF20 w' hb
    clear hd hB
    go_simp
    go_at_call 45
    refine hcl.mono ?_
    rintro e w2 ⟨rfl, h2⟩
    exact hK _ h2
  refine DetR.is (o := { dst := some 47, op := Op.pick (Operand.tmp 43) (Operand.tmp 46) (Operand.const (Value.bool false)), type := 4, pos := "law.go:102", after := #[{ on := 17, ground := Ground.data }, { on := 20, ground := Ground.data }, { on := 14, ground := Ground.guard }], guard := some (14, false) }) (u := .bool false) rfl (by decide) (fun T w' hb hd hB K hK => ?sx82) ?rx82
  case sx82 =>
    have e43 := hd 17 43 _ (by decide) (by kernel_rfl) rfl rfl
    replace e43 : T.getD 43 undef = _ := e43
    have e46 := hd 20 46 _ (by decide) (by kernel_rfl) rfl rfl
    replace e46 : T.getD 46 undef = _ := e46
    have eg := hd 14 40 _ (by decide) (by kernel_rfl) rfl rfl
    replace eg : T.getD 40 undef = .bool false := eg
    rw [if_pos (wanted_yes 14 40 false rfl rfl eg)]
    clear eg
    clear hd hB
    go_simp
    exact hK _ (Below.refl _ _)
  refine DetR.is (o := { dst := some 48, op := Op.move (Operand.tmp 47), type := 4, pos := "law.go:102", after := #[{ on := 21, ground := Ground.data }, { on := 20, ground := Ground.chain }, { on := 14, ground := Ground.guard }], guard := some (14, false) }) (u := .bool false) rfl (by decide) (fun T w' hb hd hB K hK => ?sx83) ?rx83
  case sx83 =>
    have e47 := hd 21 47 _ (by decide) (by kernel_rfl) rfl rfl
    replace e47 : T.getD 47 undef = _ := e47
    have eg := hd 14 40 _ (by decide) (by kernel_rfl) rfl rfl
    replace eg : T.getD 40 undef = .bool false := eg
    rw [if_pos (wanted_yes 14 40 false rfl rfl eg)]
    clear eg
    clear hd hB
    go_simp
    exact hK _ (Below.refl _ _)
  refine DetR.is (o := { dst := some 49, op := Op.load 30 (Operand.tmp 7), type := 30, pos := "law.go:102", after := #[{ on := 22, ground := Ground.guard }], guard := some (22, true) }) (u := ?ux84) rfl (by decide) (fun T w' hb hd hB K hK => ?sx84) ?rx84
  case sx84 =>
    have e7 := (hB 7 (by kernel_rfl)).trans hT7
    have q7_0 : w'.cell? ⟨ga, 0, none⟩ = some (xf) := (blk_cell (blk_below hX7 hb) 0).trans rfl
    have q7_1 : w'.cell? ⟨ga, 1, none⟩ = some (xl) := (blk_cell (blk_below hX7 hb) 1).trans rfl
    have eg := hd 22 48 _ (by decide) (by kernel_rfl) rfl rfl
    replace eg : T.getD 48 undef = .bool false := eg
    rw [if_neg (wanted_no 22 48 false rfl rfl eg)]
    exact hK _ (Below.refl _ _)
  refine DetR.is (o := { dst := some 50, op := Op.call { callee := Callee.value (Operand.func 34), args := #[Operand.tmp 49], argTypes := #[30] }, type := 3, pos := "law.go:102", after := #[{ on := 23, ground := Ground.data }, { on := 22, ground := Ground.chain }, { on := 22, ground := Ground.guard }], guard := some (22, true) }) (u := ?ux85) rfl (by decide) (fun T w' hb hd hB K hK => ?sx85) ?rx85
  case sx85 =>
    have e49 := hd 23 49 _ (by decide) (by kernel_rfl) rfl rfl
    replace e49 : T.getD 49 undef = _ := e49
    have eg := hd 22 48 _ (by decide) (by kernel_rfl) rfl rfl
    replace eg : T.getD 48 undef = .bool false := eg
    rw [if_neg (wanted_no 22 48 false rfl rfl eg)]
    exact hK _ (Below.refl _ _)
  refine DetR.is (o := { dst := some 51, op := Op.load 30 (Operand.tmp 8), type := 30, pos := "law.go:102", after := #[{ on := 22, ground := Ground.guard }], guard := some (22, true) }) (u := ?ux86) rfl (by decide) (fun T w' hb hd hB K hK => ?sx86) ?rx86
  case sx86 =>
    have e8 := (hB 8 (by kernel_rfl)).trans hT8
    have q8_0 : w'.cell? ⟨gb, 0, none⟩ = some (yf) := (blk_cell (blk_below hX8 hb) 0).trans rfl
    have q8_1 : w'.cell? ⟨gb, 1, none⟩ = some (yl) := (blk_cell (blk_below hX8 hb) 1).trans rfl
    have eg := hd 22 48 _ (by decide) (by kernel_rfl) rfl rfl
    replace eg : T.getD 48 undef = .bool false := eg
    rw [if_neg (wanted_no 22 48 false rfl rfl eg)]
    exact hK _ (Below.refl _ _)
  refine DetR.is (o := { dst := some 52, op := Op.call { callee := Callee.value (Operand.func 34), args := #[Operand.tmp 51], argTypes := #[30] }, type := 3, pos := "law.go:102", after := #[{ on := 25, ground := Ground.data }, { on := 24, ground := Ground.chain }, { on := 22, ground := Ground.guard }], guard := some (22, true) }) (u := ?ux87) rfl (by decide) (fun T w' hb hd hB K hK => ?sx87) ?rx87
  case sx87 =>
    have e51 := hd 25 51 _ (by decide) (by kernel_rfl) rfl rfl
    replace e51 : T.getD 51 undef = _ := e51
    have eg := hd 22 48 _ (by decide) (by kernel_rfl) rfl rfl
    replace eg : T.getD 48 undef = .bool false := eg
    rw [if_neg (wanted_no 22 48 false rfl rfl eg)]
    exact hK _ (Below.refl _ _)
  refine DetR.is (o := { dst := some 53, op := Op.binOp BinOp.gtr 3 (Operand.tmp 50) (Operand.tmp 52) 3, type := 4, pos := "law.go:102", after := #[{ on := 24, ground := Ground.data }, { on := 26, ground := Ground.data }, { on := 22, ground := Ground.guard }], guard := some (22, true) }) (u := ?ux88) rfl (by decide) (fun T w' hb hd hB K hK => ?sx88) ?rx88
  case sx88 =>
    have e50 := hd 24 50 _ (by decide) (by kernel_rfl) rfl rfl
    replace e50 : T.getD 50 undef = _ := e50
    have e52 := hd 26 52 _ (by decide) (by kernel_rfl) rfl rfl
    replace e52 : T.getD 52 undef = _ := e52
    have eg := hd 22 48 _ (by decide) (by kernel_rfl) rfl rfl
    replace eg : T.getD 48 undef = .bool false := eg
    rw [if_neg (wanted_no 22 48 false rfl rfl eg)]
    exact hK _ (Below.refl _ _)
  refine DetR.is (o := { dst := some 54, op := Op.pick (Operand.tmp 48) (Operand.tmp 53) (Operand.const (Value.bool false)), type := 4, pos := "law.go:102", after := #[{ on := 22, ground := Ground.data }, { on := 27, ground := Ground.data }, { on := 14, ground := Ground.guard }], guard := some (14, false) }) (u := .bool false) rfl (by decide) (fun T w' hb hd hB K hK => ?sx89) ?rx89
  case sx89 =>
    have e48 := hd 22 48 _ (by decide) (by kernel_rfl) rfl rfl
    replace e48 : T.getD 48 undef = _ := e48
    have e53 := hd 27 53 _ (by decide) (by kernel_rfl) rfl rfl
    replace e53 : T.getD 53 undef = _ := e53
    have eg := hd 14 40 _ (by decide) (by kernel_rfl) rfl rfl
    replace eg : T.getD 40 undef = .bool false := eg
    rw [if_pos (wanted_yes 14 40 false rfl rfl eg)]
    clear eg
    clear hd hB
    go_simp
    exact hK _ (Below.refl _ _)
  refine DetR.is (o := { dst := some 55, op := Op.pick (Operand.tmp 40) (Operand.const (Value.bool true)) (Operand.tmp 54), type := 4, pos := "law.go:102", after := #[{ on := 14, ground := Ground.data }, { on := 28, ground := Ground.data }], guard := none }) (u := .bool false) rfl (by decide) (fun T w' hb hd hB K hK => ?sx90) ?rx90
  case sx90 =>
    have e40 := hd 14 40 _ (by decide) (by kernel_rfl) rfl rfl
    replace e40 : T.getD 40 undef = _ := e40
    have e54 := hd 28 54 _ (by decide) (by kernel_rfl) rfl rfl
    replace e54 : T.getD 54 undef = _ := e54
    rw [if_pos (wanted_none _ rfl)]
    clear hd hB
    go_simp
    exact hK _ (Below.refl _ _)
  refine DetR.done [some 26, some 27, some 28, some 29, some 30, some 31, some 32, some 33, some 34, some 35, some 36, some 37, some 38, some 39, some 40, some 41, some 42, some 43, some 44, some 45, some 46, some 47, some 48, some 49, some 50, some 51, some 52, some 53, some 54, some 55] (by kernel_rfl) rfl (by kernel_rfl) ?_
  intro v w' hb hv
  exact hK v w' hb (hv 29 _ (by decide) rfl)
set_option maxHeartbeats 4000000 in
set_option maxRecDepth 100000 in
theorem KboSizes_r7 {id : Nat} {a : Act} {w : World} {Q : Exit → Act → World → Prop} {g c : Bool} {ga gb nx ny : Nat} {xf xl yf yl : Value}
    (hr : regionOk #[{ dst := some 26, op := Op.move (Operand.tmp 9), type := 4, pos := "law.go:102", after := #[], guard := none }, { dst := some 27, op := Op.move (Operand.tmp 26), type := 4, pos := "law.go:102", after := #[{ on := 0, ground := Ground.data }], guard := none }, { dst := some 28, op := Op.load 30 (Operand.tmp 7), type := 30, pos := "law.go:102", after := #[{ on := 1, ground := Ground.guard }], guard := some (1, true) }, { dst := some 29, op := Op.call { callee := Callee.value (Operand.func 34), args := #[Operand.tmp 28], argTypes := #[30] }, type := 3, pos := "law.go:102", after := #[{ on := 2, ground := Ground.data }, { on := 1, ground := Ground.chain }, { on := 1, ground := Ground.guard }], guard := some (1, true) }, { dst := some 30, op := Op.load 30 (Operand.tmp 8), type := 30, pos := "law.go:102", after := #[{ on := 1, ground := Ground.guard }], guard := some (1, true) }, { dst := some 31, op := Op.call { callee := Callee.value (Operand.func 34), args := #[Operand.tmp 30], argTypes := #[30] }, type := 3, pos := "law.go:102", after := #[{ on := 4, ground := Ground.data }, { on := 3, ground := Ground.chain }, { on := 1, ground := Ground.guard }], guard := some (1, true) }, { dst := some 32, op := Op.binOp BinOp.lss 3 (Operand.tmp 29) (Operand.tmp 31) 3, type := 4, pos := "law.go:102", after := #[{ on := 3, ground := Ground.data }, { on := 5, ground := Ground.data }, { on := 1, ground := Ground.guard }], guard := some (1, true) }, { dst := some 33, op := Op.move (Operand.tmp 32), type := 4, pos := "law.go:102", after := #[{ on := 6, ground := Ground.data }, { on := 5, ground := Ground.chain }, { on := 1, ground := Ground.guard }], guard := some (1, true) }, { dst := some 34, op := Op.load 30 (Operand.tmp 7), type := 30, pos := "law.go:102", after := #[{ on := 7, ground := Ground.guard }], guard := some (7, false) }, { dst := some 35, op := Op.load 30 (Operand.tmp 8), type := 30, pos := "law.go:102", after := #[{ on := 7, ground := Ground.guard }], guard := some (7, false) }, { dst := some 36, op := Op.call { callee := Callee.value (Operand.func 45), args := #[Operand.tmp 34, Operand.tmp 35], argTypes := #[30, 30] }, type := 4, pos := "law.go:102", after := #[{ on := 8, ground := Ground.data }, { on := 9, ground := Ground.data }, { on := 7, ground := Ground.chain }, { on := 7, ground := Ground.guard }], guard := some (7, false) }, { dst := some 37, op := Op.unOp UnOp.not 4 (Operand.tmp 36), type := 4, pos := "law.go:102", after := #[{ on := 10, ground := Ground.data }, { on := 7, ground := Ground.guard }], guard := some (7, false) }, { dst := some 38, op := Op.pick (Operand.tmp 33) (Operand.const (Value.bool true)) (Operand.tmp 37), type := 4, pos := "law.go:102", after := #[{ on := 7, ground := Ground.data }, { on := 11, ground := Ground.data }, { on := 1, ground := Ground.guard }], guard := some (1, true) }, { dst := some 39, op := Op.pick (Operand.tmp 27) (Operand.tmp 38) (Operand.const (Value.bool false)), type := 4, pos := "law.go:102", after := #[{ on := 1, ground := Ground.data }, { on := 12, ground := Ground.data }], guard := none }, { dst := some 40, op := Op.move (Operand.tmp 39), type := 4, pos := "law.go:102", after := #[{ on := 13, ground := Ground.data }, { on := 10, ground := Ground.chain }], guard := none }, { dst := some 41, op := Op.move (Operand.tmp 9), type := 4, pos := "law.go:102", after := #[{ on := 14, ground := Ground.guard }], guard := some (14, false) }, { dst := some 42, op := Op.unOp UnOp.not 4 (Operand.tmp 41), type := 4, pos := "law.go:102", after := #[{ on := 15, ground := Ground.data }, { on := 14, ground := Ground.guard }], guard := some (14, false) }, { dst := some 43, op := Op.move (Operand.tmp 42), type := 4, pos := "law.go:102", after := #[{ on := 16, ground := Ground.data }, { on := 14, ground := Ground.chain }, { on := 14, ground := Ground.guard }], guard := some (14, false) }, { dst := some 44, op := Op.load 30 (Operand.tmp 7), type := 30, pos := "law.go:102", after := #[{ on := 17, ground := Ground.guard }], guard := some (17, true) }, { dst := some 45, op := Op.load 30 (Operand.tmp 8), type := 30, pos := "law.go:102", after := #[{ on := 17, ground := Ground.guard }], guard := some (17, true) }, { dst := some 46, op := Op.call { callee := Callee.value (Operand.func 45), args := #[Operand.tmp 44, Operand.tmp 45], argTypes := #[30, 30] }, type := 4, pos := "law.go:102", after := #[{ on := 18, ground := Ground.data }, { on := 19, ground := Ground.data }, { on := 17, ground := Ground.chain }, { on := 17, ground := Ground.guard }], guard := some (17, true) }, { dst := some 47, op := Op.pick (Operand.tmp 43) (Operand.tmp 46) (Operand.const (Value.bool false)), type := 4, pos := "law.go:102", after := #[{ on := 17, ground := Ground.data }, { on := 20, ground := Ground.data }, { on := 14, ground := Ground.guard }], guard := some (14, false) }, { dst := some 48, op := Op.move (Operand.tmp 47), type := 4, pos := "law.go:102", after := #[{ on := 21, ground := Ground.data }, { on := 20, ground := Ground.chain }, { on := 14, ground := Ground.guard }], guard := some (14, false) }, { dst := some 49, op := Op.load 30 (Operand.tmp 7), type := 30, pos := "law.go:102", after := #[{ on := 22, ground := Ground.guard }], guard := some (22, true) }, { dst := some 50, op := Op.call { callee := Callee.value (Operand.func 34), args := #[Operand.tmp 49], argTypes := #[30] }, type := 3, pos := "law.go:102", after := #[{ on := 23, ground := Ground.data }, { on := 22, ground := Ground.chain }, { on := 22, ground := Ground.guard }], guard := some (22, true) }, { dst := some 51, op := Op.load 30 (Operand.tmp 8), type := 30, pos := "law.go:102", after := #[{ on := 22, ground := Ground.guard }], guard := some (22, true) }, { dst := some 52, op := Op.call { callee := Callee.value (Operand.func 34), args := #[Operand.tmp 51], argTypes := #[30] }, type := 3, pos := "law.go:102", after := #[{ on := 25, ground := Ground.data }, { on := 24, ground := Ground.chain }, { on := 22, ground := Ground.guard }], guard := some (22, true) }, { dst := some 53, op := Op.binOp BinOp.gtr 3 (Operand.tmp 50) (Operand.tmp 52) 3, type := 4, pos := "law.go:102", after := #[{ on := 24, ground := Ground.data }, { on := 26, ground := Ground.data }, { on := 22, ground := Ground.guard }], guard := some (22, true) }, { dst := some 54, op := Op.pick (Operand.tmp 48) (Operand.tmp 53) (Operand.const (Value.bool false)), type := 4, pos := "law.go:102", after := #[{ on := 22, ground := Ground.data }, { on := 27, ground := Ground.data }, { on := 14, ground := Ground.guard }], guard := some (14, false) }, { dst := some 55, op := Op.pick (Operand.tmp 40) (Operand.const (Value.bool true)) (Operand.tmp 54), type := 4, pos := "law.go:102", after := #[{ on := 14, ground := Ground.data }, { on := 28, ground := Ground.data }], guard := none }] a.tmps.size = true)
    (hT9 : a.tmps.getD 9 undef = .bool g)
    (hT7 : a.tmps.getD 7 undef = .pointer (some ⟨ga, 0, none⟩)) (hX7 : w.heap[ga]? = some (.cells #[xf, xl] 30 (0, 0)))
    (hT8 : a.tmps.getD 8 undef = .pointer (some ⟨gb, 0, none⟩)) (hX8 : w.heap[gb]? = some (.cells #[yf, yl] 30 (0, 0)))
    (hF3 : ∀ w1, Below w.heap.size w w1 → Calls Try.prog 34 #[.agg #[xf, xl]] w1 fun e w2 => e = .returned (.int .i64 (nx : Int)) ∧ Below w1.heap.size w1 w2)
    (hF5 : ∀ w1, Below w.heap.size w w1 → Calls Try.prog 34 #[.agg #[yf, yl]] w1 fun e w2 => e = .returned (.int .i64 (ny : Int)) ∧ Below w1.heap.size w1 w2)
    (hF10 : ∀ w1, Below w.heap.size w w1 → Calls Try.prog 45 #[.agg #[xf, xl], .agg #[yf, yl]] w1 fun e w2 => e = .returned (.bool c) ∧ Below w1.heap.size w1 w2)
    (h1 : g = true → c = true ∧ ny ≤ nx) (h2 : g = false → c = true → nx ≤ ny)
    (hK : ∀ v w', Below w.heap.size w w' → v 29 = .bool false → Q .normal { tmps := layL [some 26, some 27, some 28, some 29, some 30, some 31, some 32, some 33, some 34, some 35, some 36, some 37, some 38, some 39, some 40, some 41, some 42, some 43, some 44, some 45, some 46, some 47, some 48, some 49, some 50, some 51, some 52, some 53, some 54, some 55] 0 v a.tmps, defers := a.defers } w') :
    (Code.region id #[{ dst := some 26, op := Op.move (Operand.tmp 9), type := 4, pos := "law.go:102", after := #[], guard := none }, { dst := some 27, op := Op.move (Operand.tmp 26), type := 4, pos := "law.go:102", after := #[{ on := 0, ground := Ground.data }], guard := none }, { dst := some 28, op := Op.load 30 (Operand.tmp 7), type := 30, pos := "law.go:102", after := #[{ on := 1, ground := Ground.guard }], guard := some (1, true) }, { dst := some 29, op := Op.call { callee := Callee.value (Operand.func 34), args := #[Operand.tmp 28], argTypes := #[30] }, type := 3, pos := "law.go:102", after := #[{ on := 2, ground := Ground.data }, { on := 1, ground := Ground.chain }, { on := 1, ground := Ground.guard }], guard := some (1, true) }, { dst := some 30, op := Op.load 30 (Operand.tmp 8), type := 30, pos := "law.go:102", after := #[{ on := 1, ground := Ground.guard }], guard := some (1, true) }, { dst := some 31, op := Op.call { callee := Callee.value (Operand.func 34), args := #[Operand.tmp 30], argTypes := #[30] }, type := 3, pos := "law.go:102", after := #[{ on := 4, ground := Ground.data }, { on := 3, ground := Ground.chain }, { on := 1, ground := Ground.guard }], guard := some (1, true) }, { dst := some 32, op := Op.binOp BinOp.lss 3 (Operand.tmp 29) (Operand.tmp 31) 3, type := 4, pos := "law.go:102", after := #[{ on := 3, ground := Ground.data }, { on := 5, ground := Ground.data }, { on := 1, ground := Ground.guard }], guard := some (1, true) }, { dst := some 33, op := Op.move (Operand.tmp 32), type := 4, pos := "law.go:102", after := #[{ on := 6, ground := Ground.data }, { on := 5, ground := Ground.chain }, { on := 1, ground := Ground.guard }], guard := some (1, true) }, { dst := some 34, op := Op.load 30 (Operand.tmp 7), type := 30, pos := "law.go:102", after := #[{ on := 7, ground := Ground.guard }], guard := some (7, false) }, { dst := some 35, op := Op.load 30 (Operand.tmp 8), type := 30, pos := "law.go:102", after := #[{ on := 7, ground := Ground.guard }], guard := some (7, false) }, { dst := some 36, op := Op.call { callee := Callee.value (Operand.func 45), args := #[Operand.tmp 34, Operand.tmp 35], argTypes := #[30, 30] }, type := 4, pos := "law.go:102", after := #[{ on := 8, ground := Ground.data }, { on := 9, ground := Ground.data }, { on := 7, ground := Ground.chain }, { on := 7, ground := Ground.guard }], guard := some (7, false) }, { dst := some 37, op := Op.unOp UnOp.not 4 (Operand.tmp 36), type := 4, pos := "law.go:102", after := #[{ on := 10, ground := Ground.data }, { on := 7, ground := Ground.guard }], guard := some (7, false) }, { dst := some 38, op := Op.pick (Operand.tmp 33) (Operand.const (Value.bool true)) (Operand.tmp 37), type := 4, pos := "law.go:102", after := #[{ on := 7, ground := Ground.data }, { on := 11, ground := Ground.data }, { on := 1, ground := Ground.guard }], guard := some (1, true) }, { dst := some 39, op := Op.pick (Operand.tmp 27) (Operand.tmp 38) (Operand.const (Value.bool false)), type := 4, pos := "law.go:102", after := #[{ on := 1, ground := Ground.data }, { on := 12, ground := Ground.data }], guard := none }, { dst := some 40, op := Op.move (Operand.tmp 39), type := 4, pos := "law.go:102", after := #[{ on := 13, ground := Ground.data }, { on := 10, ground := Ground.chain }], guard := none }, { dst := some 41, op := Op.move (Operand.tmp 9), type := 4, pos := "law.go:102", after := #[{ on := 14, ground := Ground.guard }], guard := some (14, false) }, { dst := some 42, op := Op.unOp UnOp.not 4 (Operand.tmp 41), type := 4, pos := "law.go:102", after := #[{ on := 15, ground := Ground.data }, { on := 14, ground := Ground.guard }], guard := some (14, false) }, { dst := some 43, op := Op.move (Operand.tmp 42), type := 4, pos := "law.go:102", after := #[{ on := 16, ground := Ground.data }, { on := 14, ground := Ground.chain }, { on := 14, ground := Ground.guard }], guard := some (14, false) }, { dst := some 44, op := Op.load 30 (Operand.tmp 7), type := 30, pos := "law.go:102", after := #[{ on := 17, ground := Ground.guard }], guard := some (17, true) }, { dst := some 45, op := Op.load 30 (Operand.tmp 8), type := 30, pos := "law.go:102", after := #[{ on := 17, ground := Ground.guard }], guard := some (17, true) }, { dst := some 46, op := Op.call { callee := Callee.value (Operand.func 45), args := #[Operand.tmp 44, Operand.tmp 45], argTypes := #[30, 30] }, type := 4, pos := "law.go:102", after := #[{ on := 18, ground := Ground.data }, { on := 19, ground := Ground.data }, { on := 17, ground := Ground.chain }, { on := 17, ground := Ground.guard }], guard := some (17, true) }, { dst := some 47, op := Op.pick (Operand.tmp 43) (Operand.tmp 46) (Operand.const (Value.bool false)), type := 4, pos := "law.go:102", after := #[{ on := 17, ground := Ground.data }, { on := 20, ground := Ground.data }, { on := 14, ground := Ground.guard }], guard := some (14, false) }, { dst := some 48, op := Op.move (Operand.tmp 47), type := 4, pos := "law.go:102", after := #[{ on := 21, ground := Ground.data }, { on := 20, ground := Ground.chain }, { on := 14, ground := Ground.guard }], guard := some (14, false) }, { dst := some 49, op := Op.load 30 (Operand.tmp 7), type := 30, pos := "law.go:102", after := #[{ on := 22, ground := Ground.guard }], guard := some (22, true) }, { dst := some 50, op := Op.call { callee := Callee.value (Operand.func 34), args := #[Operand.tmp 49], argTypes := #[30] }, type := 3, pos := "law.go:102", after := #[{ on := 23, ground := Ground.data }, { on := 22, ground := Ground.chain }, { on := 22, ground := Ground.guard }], guard := some (22, true) }, { dst := some 51, op := Op.load 30 (Operand.tmp 8), type := 30, pos := "law.go:102", after := #[{ on := 22, ground := Ground.guard }], guard := some (22, true) }, { dst := some 52, op := Op.call { callee := Callee.value (Operand.func 34), args := #[Operand.tmp 51], argTypes := #[30] }, type := 3, pos := "law.go:102", after := #[{ on := 25, ground := Ground.data }, { on := 24, ground := Ground.chain }, { on := 22, ground := Ground.guard }], guard := some (22, true) }, { dst := some 53, op := Op.binOp BinOp.gtr 3 (Operand.tmp 50) (Operand.tmp 52) 3, type := 4, pos := "law.go:102", after := #[{ on := 24, ground := Ground.data }, { on := 26, ground := Ground.data }, { on := 22, ground := Ground.guard }], guard := some (22, true) }, { dst := some 54, op := Op.pick (Operand.tmp 48) (Operand.tmp 53) (Operand.const (Value.bool false)), type := 4, pos := "law.go:102", after := #[{ on := 22, ground := Ground.data }, { on := 27, ground := Ground.data }, { on := 14, ground := Ground.guard }], guard := some (14, false) }, { dst := some 55, op := Op.pick (Operand.tmp 40) (Operand.const (Value.bool true)) (Operand.tmp 54), type := 4, pos := "law.go:102", after := #[{ on := 14, ground := Ground.data }, { on := 28, ground := Ground.data }], guard := none }] true).wp Try.prog Q a w := by
  cases g with
  | true =>
    obtain ⟨hc, hn⟩ := h1 rfl
    subst hc
    exact KboSizes_r7tt hr hT9 hT7 hX7 hT8 hX8 hF3 hF5 hF10 hn hK
  | false =>
    cases c with
    | true => exact KboSizes_r7ft hr hT9 hT7 hX7 hT8 hX8 hF10 hF3 hF5 (h2 rfl rfl) hK
    | false => exact KboSizes_r7ff (nx := 0) (ny := 0) hr hT9 hT7 hX7 hT8 hX8 hF10 (Nat.le_refl _) hK
def KeepU (gu gd : Nat) (w w' : World) : Prop := ∀ k, k ≠ gu → k ≠ gd → k < w.heap.size → w'.heap[k]? = w.heap[k]?
theorem KeepU.of_below (gu gd : Nat) (w w' : World) (h : Below w.heap.size w w') : KeepU gu gd w w' := fun k _ _ hk => h.block k hk
theorem KeepU.one {gu gd : Nat} {w : World} {g i : Nat} {u : Value} (h : g = gu ∨ g = gd) : KeepU gu gd w (w.setCell ⟨g, i, none⟩ u) := fun k h1 h2 _ => Below.heap_setCell _ _ _ k (by show k ≠ g; omega)
theorem BlockTold.keepsU {N gu gd : Nat} {f : Nat → Value} {cs : Array Value} {t : TypeId} (h1 : gu < N) (h2 : gd < N) : (BlockTold N f cs t).keeps (KeepU gu gd) := fun u w w' h hk => by
  obtain ⟨g, e1, e2, e3⟩ := h
  exact ⟨g, e1, e2, (hk g (by omega) (by omega) (blk_lt e3)).trans e3⟩
def BoxJ (gu gd M : Nat) : BoxI := fun v d w =>
  w.heap[gu]? = some (.cells #[.int .i64 9, if d 7 = true then v 2 else .slice none 0 0] 30 (0, 0)) ∧
  w.heap[gd]? = some (.cells #[.int .i64 9, if d 9 = true then v 5 else .slice none 0 0] 30 (0, 0)) ∧ (d 7 = true → d 2 = true) ∧ (d 9 = true → d 5 = true) ∧ M ≤ w.heap.size
theorem BoxJ.other {gu gd M i : Nat} (hi : i ∉ [7, 9]) {v : Nat → Value} {d : Nat → Bool} {w w2 : World} {u : Value} (h : BoxJ gu gd M v d w) (hd : d i = false) (hb : Below w.heap.size w w2) : BoxJ gu gd M (upd v i u) (upd d i true) w2 := by
  obtain ⟨h1, h2, h3, h4, h5⟩ := h
  have i7 : 7 ≠ i := fun e => hi (by simp [← e])
  have i9 : 9 ≠ i := fun e => hi (by simp [← e])
  have e7 : (if d 7 = true then (upd v i u) 2 else .slice none 0 0) = if d 7 = true then v 2 else .slice none 0 0 := by
    by_cases h7 : d 7 = true
    · have := h3 h7
      rw [if_pos h7, if_pos h7, upd_other _ _ (fun e => by rw [e, hd] at this; cases this)]
    · rw [if_neg h7, if_neg h7]
  have e9 : (if d 9 = true then (upd v i u) 5 else .slice none 0 0) = if d 9 = true then v 5 else .slice none 0 0 := by
    by_cases h9 : d 9 = true
    · have := h4 h9
      rw [if_pos h9, if_pos h9, upd_other _ _ (fun e => by rw [e, hd] at this; cases this)]
    · rw [if_neg h9, if_neg h9]
  have up : ∀ j, d j = true → (upd d i true) j = true := fun j hj => by
    by_cases hji : j = i
    · rw [hji, upd_same]
    · rw [upd_other _ _ hji]; exact hj
  refine ⟨?_, ?_, fun h => ?_, fun h => ?_, Nat.le_trans h5 hb.size⟩
  · rw [upd_other _ _ i7, e7]; exact blk_below h1 hb
  · rw [upd_other _ _ i9, e9]; exact blk_below h2 hb
  · rw [upd_other _ _ i7] at h; exact up 2 (h3 h)
  · rw [upd_other _ _ i9] at h; exact up 5 (h4 h)
theorem BoxJ.set7 {gu gd M : Nat} (hne : gu ≠ gd) {v : Nat → Value} {d : Nat → Bool} {w : World} {u : Value} (h : BoxJ gu gd M v d w) (hd : d 7 = false) (hd2 : d 2 = true) : BoxJ gu gd M (upd v 7 u) (upd d 7 true) (w.setCell ⟨gu, 1, none⟩ (v 2)) := by
  obtain ⟨h1, h2, h3, h4, h5⟩ := h
  refine ⟨?_, ?_, fun _ => ?_, fun h => ?_, by rw [setCell_size]; exact h5⟩
  · rw [upd_same, if_pos rfl, upd_other _ _ (by decide)]
    rw [hd, if_neg (by decide)] at h1
    exact (blk_set h1 1 _).trans rfl
  · rw [upd_other _ _ (by decide), upd_other _ _ (by decide)]
    exact (Below.heap_setCell _ _ _ gd (by show gd ≠ gu; omega)).trans h2
  · rw [upd_other _ _ (by decide)]; exact hd2
  · rw [upd_other _ _ (by decide)] at h ⊢; exact h4 h
theorem BoxJ.set9 {gu gd M : Nat} (hne : gu ≠ gd) {v : Nat → Value} {d : Nat → Bool} {w : World} {u : Value} (h : BoxJ gu gd M v d w) (hd : d 9 = false) (hd2 : d 5 = true) : BoxJ gu gd M (upd v 9 u) (upd d 9 true) (w.setCell ⟨gd, 1, none⟩ (v 5)) := by
  obtain ⟨h1, h2, h3, h4, h5⟩ := h
  refine ⟨?_, ?_, fun h => ?_, fun _ => ?_, by rw [setCell_size]; exact h5⟩
  · rw [upd_other _ _ (by decide), upd_other _ _ (by decide)]
    exact (Below.heap_setCell _ _ _ gu (by show gu ≠ gd; omega)).trans h1
  · rw [upd_same, if_pos rfl, upd_other _ _ (by decide)]
    rw [hd, if_neg (by decide)] at h2
    exact (blk_set h2 1 _).trans rfl
  · rw [upd_other _ _ (by decide)] at h ⊢; exact h3 h
  · rw [upd_other _ _ (by decide)]; exact hd2
set_option maxHeartbeats 4000000 in
set_option maxRecDepth 100000 in
theorem KboSizes_r11 {id : Nat} {a : Act} {w : World} {Q : Exit → Act → World → Prop} {N ga gb gu gd : Nat} {xf xl yf yl : Value}
    (hr : regionOk #[{ dst := some 58, op := Op.load 30 (Operand.tmp 7), type := 30, pos := "law.go:107", after := #[], guard := none }, { dst := some 59, op := Op.load 30 (Operand.tmp 8), type := 30, pos := "law.go:107", after := #[], guard := none }, { dst := some 60, op := Op.buildSlice 28 2 #[(0, Operand.tmp 58), (1, Operand.tmp 59)], type := 28, pos := "law.go:107", after := #[{ on := 0, ground := Ground.data }, { on := 1, ground := Ground.data }], guard := none }, { dst := some 61, op := Op.load 30 (Operand.tmp 8), type := 30, pos := "law.go:107", after := #[{ on := 7, ground := Ground.gcOnly Departure.lateStores }], guard := none }, { dst := some 62, op := Op.load 30 (Operand.tmp 8), type := 30, pos := "law.go:107", after := #[{ on := 7, ground := Ground.gcOnly Departure.lateStores }], guard := none }, { dst := some 63, op := Op.buildSlice 28 2 #[(0, Operand.tmp 61), (1, Operand.tmp 62)], type := 28, pos := "law.go:107", after := #[{ on := 3, ground := Ground.data }, { on := 4, ground := Ground.data }, { on := 7, ground := Ground.gcOnly Departure.lateStores }], guard := none }, { dst := some 64, op := Op.fieldAddr 30 (Operand.tmp 10) 1, type := 0, pos := "law.go:107", after := #[{ on := 0, ground := Ground.phase }, { on := 1, ground := Ground.phase }, { on := 2, ground := Ground.phase }, { on := 3, ground := Ground.textOnly Departure.lateStores }, { on := 4, ground := Ground.textOnly Departure.lateStores }, { on := 5, ground := Ground.textOnly Departure.lateStores }], guard := none }, { dst := none, op := Op.store 28 (Operand.tmp 64) (Operand.tmp 60), type := 0, pos := "law.go:107", after := #[{ on := 6, ground := Ground.data }, { on := 2, ground := Ground.data }, { on := 0, ground := Ground.phase }, { on := 1, ground := Ground.phase }, { on := 2, ground := Ground.phase }, { on := 3, ground := Ground.textOnly Departure.lateStores }, { on := 4, ground := Ground.textOnly Departure.lateStores }, { on := 5, ground := Ground.textOnly Departure.lateStores }], guard := none }, { dst := some 65, op := Op.fieldAddr 30 (Operand.tmp 11) 1, type := 0, pos := "law.go:107", after := #[{ on := 0, ground := Ground.phase }, { on := 1, ground := Ground.phase }, { on := 2, ground := Ground.phase }, { on := 3, ground := Ground.phase }, { on := 4, ground := Ground.phase }, { on := 5, ground := Ground.phase }, { on := 6, ground := Ground.phase }, { on := 7, ground := Ground.phase }], guard := none }, { dst := none, op := Op.store 28 (Operand.tmp 65) (Operand.tmp 63), type := 0, pos := "law.go:107", after := #[{ on := 8, ground := Ground.data }, { on := 5, ground := Ground.data }, { on := 7, ground := Ground.chain }, { on := 0, ground := Ground.phase }, { on := 1, ground := Ground.phase }, { on := 2, ground := Ground.phase }, { on := 3, ground := Ground.phase }, { on := 4, ground := Ground.phase }, { on := 5, ground := Ground.phase }, { on := 6, ground := Ground.phase }, { on := 7, ground := Ground.phase }], guard := none }] a.tmps.size = true)
    (hT10 : a.tmps.getD 10 undef = .pointer (some ⟨gu, 0, none⟩))
    (hT11 : a.tmps.getD 11 undef = .pointer (some ⟨gd, 0, none⟩))
    (hT7 : a.tmps.getD 7 undef = .pointer (some ⟨ga, 0, none⟩)) (hX7 : w.heap[ga]? = some (.cells #[xf, xl] 30 (0, 0)))
    (hT8 : a.tmps.getD 8 undef = .pointer (some ⟨gb, 0, none⟩)) (hX8 : w.heap[gb]? = some (.cells #[yf, yl] 30 (0, 0)))
    (hN : N ≤ w.heap.size) (hg7 : ga < N) (hg8 : gb < N) (hgu : N ≤ gu) (hgd : N ≤ gd) (hne : gu ≠ gd) (hU : w.heap[gu]? = some (.cells #[.int .i64 9, .slice none 0 0] 30 (0, 0))) (hD : w.heap[gd]? = some (.cells #[.int .i64 9, .slice none 0 0] 30 (0, 0)))
    (hK : ∀ v w' g2 g5, Below N w w' → w'.heap[gu]? = some (.cells #[.int .i64 9, .slice (some ⟨g2, 0, none⟩) 2 2] 30 (0, 0)) → w'.heap[gd]? = some (.cells #[.int .i64 9, .slice (some ⟨g5, 0, none⟩) 2 2] 30 (0, 0)) → w'.heap[g2]? = some (.cells #[xf, xl, yf, yl] 30 (0, 0)) → w'.heap[g5]? = some (.cells #[yf, yl, yf, yl] 30 (0, 0)) → Q .normal { tmps := layL [some 58, some 59, some 60, some 61, some 62, some 63, some 64, none, some 65, none] 0 v a.tmps, defers := a.defers } w') :
    (Code.region id #[{ dst := some 58, op := Op.load 30 (Operand.tmp 7), type := 30, pos := "law.go:107", after := #[], guard := none }, { dst := some 59, op := Op.load 30 (Operand.tmp 8), type := 30, pos := "law.go:107", after := #[], guard := none }, { dst := some 60, op := Op.buildSlice 28 2 #[(0, Operand.tmp 58), (1, Operand.tmp 59)], type := 28, pos := "law.go:107", after := #[{ on := 0, ground := Ground.data }, { on := 1, ground := Ground.data }], guard := none }, { dst := some 61, op := Op.load 30 (Operand.tmp 8), type := 30, pos := "law.go:107", after := #[{ on := 7, ground := Ground.gcOnly Departure.lateStores }], guard := none }, { dst := some 62, op := Op.load 30 (Operand.tmp 8), type := 30, pos := "law.go:107", after := #[{ on := 7, ground := Ground.gcOnly Departure.lateStores }], guard := none }, { dst := some 63, op := Op.buildSlice 28 2 #[(0, Operand.tmp 61), (1, Operand.tmp 62)], type := 28, pos := "law.go:107", after := #[{ on := 3, ground := Ground.data }, { on := 4, ground := Ground.data }, { on := 7, ground := Ground.gcOnly Departure.lateStores }], guard := none }, { dst := some 64, op := Op.fieldAddr 30 (Operand.tmp 10) 1, type := 0, pos := "law.go:107", after := #[{ on := 0, ground := Ground.phase }, { on := 1, ground := Ground.phase }, { on := 2, ground := Ground.phase }, { on := 3, ground := Ground.textOnly Departure.lateStores }, { on := 4, ground := Ground.textOnly Departure.lateStores }, { on := 5, ground := Ground.textOnly Departure.lateStores }], guard := none }, { dst := none, op := Op.store 28 (Operand.tmp 64) (Operand.tmp 60), type := 0, pos := "law.go:107", after := #[{ on := 6, ground := Ground.data }, { on := 2, ground := Ground.data }, { on := 0, ground := Ground.phase }, { on := 1, ground := Ground.phase }, { on := 2, ground := Ground.phase }, { on := 3, ground := Ground.textOnly Departure.lateStores }, { on := 4, ground := Ground.textOnly Departure.lateStores }, { on := 5, ground := Ground.textOnly Departure.lateStores }], guard := none }, { dst := some 65, op := Op.fieldAddr 30 (Operand.tmp 11) 1, type := 0, pos := "law.go:107", after := #[{ on := 0, ground := Ground.phase }, { on := 1, ground := Ground.phase }, { on := 2, ground := Ground.phase }, { on := 3, ground := Ground.phase }, { on := 4, ground := Ground.phase }, { on := 5, ground := Ground.phase }, { on := 6, ground := Ground.phase }, { on := 7, ground := Ground.phase }], guard := none }, { dst := none, op := Op.store 28 (Operand.tmp 65) (Operand.tmp 63), type := 0, pos := "law.go:107", after := #[{ on := 8, ground := Ground.data }, { on := 5, ground := Ground.data }, { on := 7, ground := Ground.chain }, { on := 0, ground := Ground.phase }, { on := 1, ground := Ground.phase }, { on := 2, ground := Ground.phase }, { on := 3, ground := Ground.phase }, { on := 4, ground := Ground.phase }, { on := 5, ground := Ground.phase }, { on := 6, ground := Ground.phase }, { on := 7, ground := Ground.phase }], guard := none }] true).wp Try.prog Q a w := by
  have hgu' : gu < w.heap.size := blk_lt hU
  have hgd' : gd < w.heap.size := blk_lt hD
  have hmx : Try.prog.follows .mixedOrders = true := by kernel_rfl
  have hJo : ∀ i, i ∉ [7, 9] → ∀ v d (w1 w2 : World) u, (BoxJ gu gd w.heap.size) v d w1 → d i = false → Below w1.heap.size w1 w2 → (BoxJ gu gd w.heap.size) (upd v i u) (upd d i true) w2 := fun i hi v d w1 w2 u h hd hb => BoxJ.other hi h hd hb
  refine region_detK N hN (KeepU gu gd) (BoxJ gu gd w.heap.size) 10 (KeepU.of_below gu gd _ _ (pw_below_drewN (Below.refl _ _) 1)) (fun v => ⟨blk_drew hU, blk_drew hD, fun h => (by cases h), fun h => (by cases h), Nat.le_refl _⟩) hmx hr rfl ?_
  refine DetK.is (o := { dst := some 58, op := Op.load 30 (Operand.tmp 7), type := 30, pos := "law.go:107", after := #[], guard := none }) (u := ?ux91) hN (KeepU.of_below gu gd) [7, 9] hJo rfl (by decide) (by decide) (fun T w' hb hd hB K hK => ?sx91) ?rx91
  case sx91 =>
    have e7 := (hB 7 (by kernel_rfl)).trans hT7
    have q7_0 : w'.cell? ⟨ga, 0, none⟩ = some (xf) := (blk_cell (blk_belowN hX7 hg7 hb) 0).trans rfl
    have q7_1 : w'.cell? ⟨ga, 1, none⟩ = some (xl) := (blk_cell (blk_belowN hX7 hg7 hb) 1).trans rfl
    rw [if_pos (wanted_none _ rfl)]
    clear hd hB
    go_simp
    exact hK _ (Below.refl _ _)
  refine DetK.is (o := { dst := some 59, op := Op.load 30 (Operand.tmp 8), type := 30, pos := "law.go:107", after := #[], guard := none }) (u := ?ux92) hN (KeepU.of_below gu gd) [7, 9] hJo rfl (by decide) (by decide) (fun T w' hb hd hB K hK => ?sx92) ?rx92
  case sx92 =>
    have e8 := (hB 8 (by kernel_rfl)).trans hT8
    have q8_0 : w'.cell? ⟨gb, 0, none⟩ = some (yf) := (blk_cell (blk_belowN hX8 hg8 hb) 0).trans rfl
    have q8_1 : w'.cell? ⟨gb, 1, none⟩ = some (yl) := (blk_cell (blk_belowN hX8 hg8 hb) 1).trans rfl
    rw [if_pos (wanted_none _ rfl)]
    clear hd hB
    go_simp
    exact hK _ (Below.refl _ _)
  refine DetK.cons (o := { dst := some 60, op := Op.buildSlice 28 2 #[(0, Operand.tmp 58), (1, Operand.tmp 59)], type := 28, pos := "law.go:107", after := #[{ on := 0, ground := Ground.data }, { on := 1, ground := Ground.data }], guard := none }) (BlockTold w.heap.size (fun g => .slice (some ⟨g, 0, none⟩) 2 2) #[xf, xl, yf, yl] 30) rfl (by decide) (BlockTold.keepsU hgu' hgd') (fun v d T w' hb hj hd0 hd hdd hB K hK => ?sx93) ?rx93
  case sx93 =>
    have e58 := hd 0 58 _ (by decide) (by kernel_rfl) rfl rfl
    replace e58 : T.getD 58 undef = _ := e58
    have z58 : T[58]?.getD undef = _ := Array.getD_eq_getD_getElem?.symm.trans e58
    have e59 := hd 1 59 _ (by decide) (by kernel_rfl) rfl rfl
    replace e59 : T.getD 59 undef = _ := e59
    have z59 : T[59]?.getD undef = _ := Array.getD_eq_getD_getElem?.symm.trans e59
    rw [if_pos (wanted_none _ rfl)]
    clear hd hdd hB
    go_simp
    exact hK _ _ (KeepU.of_below gu gd _ _ (below_alloc (Below.refl _ _) _)) (hb.trans ((below_alloc (Below.refl _ _) _).mono (Nat.le_trans hN hj.2.2.2.2))) ⟨_, rfl, hj.2.2.2.2, heap_alloc_new _ _⟩ (BoxJ.other (by decide) hj hd0 (below_alloc (Below.refl _ _) _))
  refine DetK.is (o := { dst := some 61, op := Op.load 30 (Operand.tmp 8), type := 30, pos := "law.go:107", after := #[{ on := 7, ground := Ground.gcOnly Departure.lateStores }], guard := none }) (u := ?ux94) hN (KeepU.of_below gu gd) [7, 9] hJo rfl (by decide) (by decide) (fun T w' hb hd hB K hK => ?sx94) ?rx94
  case sx94 =>
    have e8 := (hB 8 (by kernel_rfl)).trans hT8
    have q8_0 : w'.cell? ⟨gb, 0, none⟩ = some (yf) := (blk_cell (blk_belowN hX8 hg8 hb) 0).trans rfl
    have q8_1 : w'.cell? ⟨gb, 1, none⟩ = some (yl) := (blk_cell (blk_belowN hX8 hg8 hb) 1).trans rfl
    rw [if_pos (wanted_none _ rfl)]
    clear hd hB
    go_simp
    exact hK _ (Below.refl _ _)
  refine DetK.is (o := { dst := some 62, op := Op.load 30 (Operand.tmp 8), type := 30, pos := "law.go:107", after := #[{ on := 7, ground := Ground.gcOnly Departure.lateStores }], guard := none }) (u := ?ux95) hN (KeepU.of_below gu gd) [7, 9] hJo rfl (by decide) (by decide) (fun T w' hb hd hB K hK => ?sx95) ?rx95
  case sx95 =>
    have e8 := (hB 8 (by kernel_rfl)).trans hT8
    have q8_0 : w'.cell? ⟨gb, 0, none⟩ = some (yf) := (blk_cell (blk_belowN hX8 hg8 hb) 0).trans rfl
    have q8_1 : w'.cell? ⟨gb, 1, none⟩ = some (yl) := (blk_cell (blk_belowN hX8 hg8 hb) 1).trans rfl
    rw [if_pos (wanted_none _ rfl)]
    clear hd hB
    go_simp
    exact hK _ (Below.refl _ _)
  refine DetK.cons (o := { dst := some 63, op := Op.buildSlice 28 2 #[(0, Operand.tmp 61), (1, Operand.tmp 62)], type := 28, pos := "law.go:107", after := #[{ on := 3, ground := Ground.data }, { on := 4, ground := Ground.data }, { on := 7, ground := Ground.gcOnly Departure.lateStores }], guard := none }) (BlockTold w.heap.size (fun g => .slice (some ⟨g, 0, none⟩) 2 2) #[yf, yl, yf, yl] 30) rfl (by decide) (BlockTold.keepsU hgu' hgd') (fun v d T w' hb hj hd0 hd hdd hB K hK => ?sx96) ?rx96
  case sx96 =>
    have e61 := hd 3 61 _ (by decide) (by kernel_rfl) rfl rfl
    replace e61 : T.getD 61 undef = _ := e61
    have z61 : T[61]?.getD undef = _ := Array.getD_eq_getD_getElem?.symm.trans e61
    have e62 := hd 4 62 _ (by decide) (by kernel_rfl) rfl rfl
    replace e62 : T.getD 62 undef = _ := e62
    have z62 : T[62]?.getD undef = _ := Array.getD_eq_getD_getElem?.symm.trans e62
    rw [if_pos (wanted_none _ rfl)]
    clear hd hdd hB
    go_simp
    exact hK _ _ (KeepU.of_below gu gd _ _ (below_alloc (Below.refl _ _) _)) (hb.trans ((below_alloc (Below.refl _ _) _).mono (Nat.le_trans hN hj.2.2.2.2))) ⟨_, rfl, hj.2.2.2.2, heap_alloc_new _ _⟩ (BoxJ.other (by decide) hj hd0 (below_alloc (Below.refl _ _) _))
  refine DetK.is (o := { dst := some 64, op := Op.fieldAddr 30 (Operand.tmp 10) 1, type := 0, pos := "law.go:107", after := #[{ on := 0, ground := Ground.phase }, { on := 1, ground := Ground.phase }, { on := 2, ground := Ground.phase }, { on := 3, ground := Ground.textOnly Departure.lateStores }, { on := 4, ground := Ground.textOnly Departure.lateStores }, { on := 5, ground := Ground.textOnly Departure.lateStores }], guard := none }) (u := .pointer (some ⟨gu, 1, none⟩)) hN (KeepU.of_below gu gd) [7, 9] hJo rfl (by decide) (by decide) (fun T w' hb hd hB K hK => ?sx97) ?rx97
  case sx97 =>
    have e10 := (hB 10 (by kernel_rfl)).trans hT10
    rw [if_pos (wanted_none _ rfl)]
    clear hd hB
    go_simp
    exact hK _ (Below.refl _ _)
  refine DetK.cons (o := { dst := none, op := Op.store 28 (Operand.tmp 64) (Operand.tmp 60), type := 0, pos := "law.go:107", after := #[{ on := 6, ground := Ground.data }, { on := 2, ground := Ground.data }, { on := 0, ground := Ground.phase }, { on := 1, ground := Ground.phase }, { on := 2, ground := Ground.phase }, { on := 3, ground := Ground.textOnly Departure.lateStores }, { on := 4, ground := Ground.textOnly Departure.lateStores }, { on := 5, ground := Ground.textOnly Departure.lateStores }], guard := none }) (fun _ _ => True) rfl (by decide) (fun _ _ _ _ _ => trivial) (fun v d T w' hb hj hd0 hd hdd hB K hK => ?sx98) ?rx98
  case sx98 =>
    have e64 := hd 6 64 _ (by decide) (by kernel_rfl) rfl rfl
    replace e64 : T.getD 64 undef = _ := e64
    have e60 := (hdd 2 (by kernel_rfl)).2 60 rfl
    rw [if_pos (wanted_none _ rfl)]
    have hv2 := (hdd 2 (by kernel_rfl)).2 60 rfl
    obtain ⟨g60, f60, hge60, hbk60⟩ := hd 2 60 _ (by decide) (by kernel_rfl) rfl rfl
    replace e60 : T.getD 60 undef = .slice (some ⟨g60, 0, none⟩) 2 2 := f60
    clear f60
    have hdn := (hdd 2 (by kernel_rfl)).1
    have hv2' : Aside0 (v 2 = .slice (some ⟨g60, 0, none⟩) 2 2) := ⟨hv2.symm.trans e60⟩
    have hbx := hj.1
    rw [hd0, if_neg (by decide)] at hbx
    have q0 : w'.cell? ⟨gu, 0, none⟩ = some (.int .i64 9) := (blk_cell hbx 0).trans rfl
    have q1 : w'.cell? ⟨gu, 1, none⟩ = some (.slice none 0 0) := (blk_cell hbx 1).trans rfl
    have z1 := blk_frozen hbx 1
    have hd0' := Aside0.mk hd0
    have hdn' := Aside0.mk hdn
    clear hd hdd hB hbx hd0 hdn hv2 hge60 hbk60
    go_simp
    refine hK undef _ (KeepU.one (.inl rfl)) (hb.setCell hgu _) trivial ?_
    rw [← hv2'.out]
    exact BoxJ.set7 hne hj hd0'.out hdn'.out
  refine DetK.is (o := { dst := some 65, op := Op.fieldAddr 30 (Operand.tmp 11) 1, type := 0, pos := "law.go:107", after := #[{ on := 0, ground := Ground.phase }, { on := 1, ground := Ground.phase }, { on := 2, ground := Ground.phase }, { on := 3, ground := Ground.phase }, { on := 4, ground := Ground.phase }, { on := 5, ground := Ground.phase }, { on := 6, ground := Ground.phase }, { on := 7, ground := Ground.phase }], guard := none }) (u := .pointer (some ⟨gd, 1, none⟩)) hN (KeepU.of_below gu gd) [7, 9] hJo rfl (by decide) (by decide) (fun T w' hb hd hB K hK => ?sx99) ?rx99
  case sx99 =>
    have e11 := (hB 11 (by kernel_rfl)).trans hT11
    rw [if_pos (wanted_none _ rfl)]
    clear hd hB
    go_simp
    exact hK _ (Below.refl _ _)
  refine DetK.cons (o := { dst := none, op := Op.store 28 (Operand.tmp 65) (Operand.tmp 63), type := 0, pos := "law.go:107", after := #[{ on := 8, ground := Ground.data }, { on := 5, ground := Ground.data }, { on := 7, ground := Ground.chain }, { on := 0, ground := Ground.phase }, { on := 1, ground := Ground.phase }, { on := 2, ground := Ground.phase }, { on := 3, ground := Ground.phase }, { on := 4, ground := Ground.phase }, { on := 5, ground := Ground.phase }, { on := 6, ground := Ground.phase }, { on := 7, ground := Ground.phase }], guard := none }) (fun _ _ => True) rfl (by decide) (fun _ _ _ _ _ => trivial) (fun v d T w' hb hj hd0 hd hdd hB K hK => ?sx100) ?rx100
  case sx100 =>
    have e65 := hd 8 65 _ (by decide) (by kernel_rfl) rfl rfl
    replace e65 : T.getD 65 undef = _ := e65
    have e63 := (hdd 5 (by kernel_rfl)).2 63 rfl
    rw [if_pos (wanted_none _ rfl)]
    have hv5 := (hdd 5 (by kernel_rfl)).2 63 rfl
    obtain ⟨g63, f63, hge63, hbk63⟩ := hd 5 63 _ (by decide) (by kernel_rfl) rfl rfl
    replace e63 : T.getD 63 undef = .slice (some ⟨g63, 0, none⟩) 2 2 := f63
    clear f63
    have hdn := (hdd 5 (by kernel_rfl)).1
    have hv5' : Aside0 (v 5 = .slice (some ⟨g63, 0, none⟩) 2 2) := ⟨hv5.symm.trans e63⟩
    have hbx := hj.2.1
    rw [hd0, if_neg (by decide)] at hbx
    have q0 : w'.cell? ⟨gd, 0, none⟩ = some (.int .i64 9) := (blk_cell hbx 0).trans rfl
    have q1 : w'.cell? ⟨gd, 1, none⟩ = some (.slice none 0 0) := (blk_cell hbx 1).trans rfl
    have z1 := blk_frozen hbx 1
    have hd0' := Aside0.mk hd0
    have hdn' := Aside0.mk hdn
    clear hd hdd hB hbx hd0 hdn hv5 hge63 hbk63
    go_simp
    refine hK undef _ (KeepU.one (.inr rfl)) (hb.setCell hgd _) trivial ?_
    rw [← hv5'.out]
    exact BoxJ.set9 hne hj hd0'.out hdn'.out
  refine DetK.done [some 58, some 59, some 60, some 61, some 62, some 63, some 64, none, some 65, none] (by kernel_rfl) rfl rfl ?_
  intro v d w' hb hv hall hj
  obtain ⟨g2, e2, _, b2⟩ := hv 2 _ (by decide) rfl
  obtain ⟨g5, e5, _, b5⟩ := hv 5 _ (by decide) rfl
  have h1 := hj.1
  have h2 := hj.2.1
  rw [if_pos (hall 7 (by decide)), e2] at h1
  rw [if_pos (hall 9 (by decide)), e5] at h2
  exact hK v w' g2 g5 hb h1 h2 b2 b5
set_option maxHeartbeats 4000000 in
set_option maxRecDepth 100000 in
theorem KboSizes_r12 {id : Nat} {a : Act} {w : World} {Q : Exit → Act → World → Prop} {f rf sf : Int} {g : Bool} {ga gb gu gd g2 g5 : Nat} {xf xl yf yl : Value} {rs ss : List S30}
    (hr : regionOk #[{ dst := some 66, op := Op.load 30 (Operand.tmp 7), type := 30, pos := "law.go:108", after := #[], guard := none }, { dst := some 67, op := Op.move (Operand.tmp 2), type := 5, pos := "law.go:108", after := #[], guard := none }, { dst := some 68, op := Op.convert 5 3 (Operand.tmp 67), type := 3, pos := "law.go:108", after := #[{ on := 1, ground := Ground.data }], guard := none }, { dst := some 69, op := Op.call { callee := Callee.value (Operand.func 49), args := #[Operand.tmp 66, Operand.tmp 68], argTypes := #[30, 3] }, type := 30, pos := "law.go:108", after := #[{ on := 0, ground := Ground.data }, { on := 2, ground := Ground.data }], guard := none }, { dst := some 70, op := Op.load 30 (Operand.tmp 8), type := 30, pos := "law.go:108", after := #[], guard := none }, { dst := some 71, op := Op.move (Operand.tmp 2), type := 5, pos := "law.go:108", after := #[], guard := none }, { dst := some 72, op := Op.convert 5 3 (Operand.tmp 71), type := 3, pos := "law.go:108", after := #[{ on := 5, ground := Ground.data }], guard := none }, { dst := some 73, op := Op.call { callee := Callee.value (Operand.func 49), args := #[Operand.tmp 70, Operand.tmp 72], argTypes := #[30, 3] }, type := 30, pos := "law.go:108", after := #[{ on := 4, ground := Ground.data }, { on := 6, ground := Ground.data }, { on := 3, ground := Ground.chain }], guard := none }, { dst := some 74, op := Op.call { callee := Callee.value (Operand.func 41), args := #[Operand.tmp 69, Operand.tmp 73], argTypes := #[30, 30] }, type := 4, pos := "law.go:108", after := #[{ on := 3, ground := Ground.data }, { on := 7, ground := Ground.data }, { on := 7, ground := Ground.chain }], guard := none }, { dst := some 75, op := Op.move (Operand.tmp 9), type := 4, pos := "law.go:108", after := #[], guard := none }, { dst := some 76, op := Op.binOp BinOp.eql 4 (Operand.tmp 74) (Operand.tmp 75) 4, type := 4, pos := "law.go:108", after := #[{ on := 8, ground := Ground.data }, { on := 9, ground := Ground.data }], guard := none }, { dst := some 77, op := Op.move (Operand.tmp 76), type := 4, pos := "law.go:108", after := #[{ on := 10, ground := Ground.data }, { on := 8, ground := Ground.chain }], guard := none }, { dst := some 78, op := Op.load 30 (Operand.tmp 10), type := 30, pos := "law.go:108", after := #[{ on := 11, ground := Ground.guard }], guard := some (11, true) }, { dst := some 79, op := Op.load 30 (Operand.tmp 11), type := 30, pos := "law.go:108", after := #[{ on := 11, ground := Ground.guard }], guard := some (11, true) }, { dst := some 80, op := Op.call { callee := Callee.value (Operand.func 41), args := #[Operand.tmp 78, Operand.tmp 79], argTypes := #[30, 30] }, type := 4, pos := "law.go:108", after := #[{ on := 12, ground := Ground.data }, { on := 13, ground := Ground.data }, { on := 11, ground := Ground.chain }, { on := 11, ground := Ground.guard }], guard := some (11, true) }, { dst := some 81, op := Op.move (Operand.tmp 9), type := 4, pos := "law.go:108", after := #[{ on := 11, ground := Ground.guard }], guard := some (11, true) }, { dst := some 82, op := Op.binOp BinOp.eql 4 (Operand.tmp 80) (Operand.tmp 81) 4, type := 4, pos := "law.go:108", after := #[{ on := 14, ground := Ground.data }, { on := 15, ground := Ground.data }, { on := 11, ground := Ground.guard }], guard := some (11, true) }, { dst := some 83, op := Op.pick (Operand.tmp 77) (Operand.tmp 82) (Operand.const (Value.bool false)), type := 4, pos := "law.go:108", after := #[{ on := 11, ground := Ground.data }, { on := 16, ground := Ground.data }], guard := none }, { dst := some 6, op := Op.assign (Operand.tmp 83), type := 4, pos := "law.go:108", after := #[{ on := 17, ground := Ground.data }, { on := 14, ground := Ground.chain }, { on := 0, ground := Ground.phase }, { on := 1, ground := Ground.phase }, { on := 2, ground := Ground.phase }, { on := 3, ground := Ground.phase }, { on := 4, ground := Ground.phase }, { on := 5, ground := Ground.phase }, { on := 6, ground := Ground.phase }, { on := 7, ground := Ground.phase }, { on := 8, ground := Ground.phase }, { on := 9, ground := Ground.phase }, { on := 10, ground := Ground.phase }, { on := 11, ground := Ground.phase }, { on := 12, ground := Ground.phase }, { on := 13, ground := Ground.phase }, { on := 14, ground := Ground.phase }, { on := 15, ground := Ground.phase }, { on := 16, ground := Ground.phase }, { on := 17, ground := Ground.phase }], guard := none }] a.tmps.size = true)
    (hT2 : a.tmps.getD 2 undef = .int .u8 f)
    (hT9 : a.tmps.getD 9 undef = .bool g)
    (hT7 : a.tmps.getD 7 undef = .pointer (some ⟨ga, 0, none⟩)) (hX7 : w.heap[ga]? = some (.cells #[xf, xl] 30 (0, 0)))
    (hT8 : a.tmps.getD 8 undef = .pointer (some ⟨gb, 0, none⟩)) (hX8 : w.heap[gb]? = some (.cells #[yf, yl] 30 (0, 0)))
    (hT10 : a.tmps.getD 10 undef = .pointer (some ⟨gu, 0, none⟩)) (hX10 : w.heap[gu]? = some (.cells #[.int .i64 9, .slice (some ⟨g2, 0, none⟩) 2 2] 30 (0, 0)))
    (hT11 : a.tmps.getD 11 undef = .pointer (some ⟨gd, 0, none⟩)) (hX11 : w.heap[gd]? = some (.cells #[.int .i64 9, .slice (some ⟨g5, 0, none⟩) 2 2] 30 (0, 0)))
    (hF3 : ∀ w1, Below w.heap.size w w1 → Calls Try.prog 49 #[.agg #[xf, xl], .int .i64 f] w1 fun e w2 => ∃ u, e = .returned u ∧ TermTold k30 rf rs u w2 ∧ Below w1.heap.size w1 w2)
    (hF7 : ∀ w1, Below w.heap.size w w1 → Calls Try.prog 49 #[.agg #[yf, yl], .int .i64 f] w1 fun e w2 => ∃ u, e = .returned u ∧ TermTold k30 sf ss u w2 ∧ Below w1.heap.size w1 w2)
    (hF14 : ∀ w1, Below w.heap.size w w1 → Calls Try.prog 41 #[.agg #[.int .i64 9, .slice (some ⟨g2, 0, none⟩) 2 2], .agg #[.int .i64 9, .slice (some ⟨g5, 0, none⟩) 2 2]] w1 fun e w2 => e = .returned (.bool g) ∧ Below w1.heap.size w1 w2)
    (hf : 0 ≤ f ∧ f ≤ 255)
    (hG : ∀ (w1 : World) (A B : Option Addr) (c d : Nat), Below w.heap.size w w1 → rs.length ≤ c → k30.C w1 A rs.length rs → ss.length ≤ d → k30.C w1 B ss.length ss → Calls Try.prog 41 #[.agg #[.int .i64 rf, .slice A rs.length c], .agg #[.int .i64 sf, .slice B ss.length d]] w1 fun e w2 => e = .returned (.bool g) ∧ Below w1.heap.size w1 w2)
    (hK : ∀ v w', Below w.heap.size w w' → v 18 = .bool true → Q .normal { tmps := layL [some 66, some 67, some 68, some 69, some 70, some 71, some 72, some 73, some 74, some 75, some 76, some 77, some 78, some 79, some 80, some 81, some 82, some 83, some 6] 0 v a.tmps, defers := a.defers } w') :
    (Code.region id #[{ dst := some 66, op := Op.load 30 (Operand.tmp 7), type := 30, pos := "law.go:108", after := #[], guard := none }, { dst := some 67, op := Op.move (Operand.tmp 2), type := 5, pos := "law.go:108", after := #[], guard := none }, { dst := some 68, op := Op.convert 5 3 (Operand.tmp 67), type := 3, pos := "law.go:108", after := #[{ on := 1, ground := Ground.data }], guard := none }, { dst := some 69, op := Op.call { callee := Callee.value (Operand.func 49), args := #[Operand.tmp 66, Operand.tmp 68], argTypes := #[30, 3] }, type := 30, pos := "law.go:108", after := #[{ on := 0, ground := Ground.data }, { on := 2, ground := Ground.data }], guard := none }, { dst := some 70, op := Op.load 30 (Operand.tmp 8), type := 30, pos := "law.go:108", after := #[], guard := none }, { dst := some 71, op := Op.move (Operand.tmp 2), type := 5, pos := "law.go:108", after := #[], guard := none }, { dst := some 72, op := Op.convert 5 3 (Operand.tmp 71), type := 3, pos := "law.go:108", after := #[{ on := 5, ground := Ground.data }], guard := none }, { dst := some 73, op := Op.call { callee := Callee.value (Operand.func 49), args := #[Operand.tmp 70, Operand.tmp 72], argTypes := #[30, 3] }, type := 30, pos := "law.go:108", after := #[{ on := 4, ground := Ground.data }, { on := 6, ground := Ground.data }, { on := 3, ground := Ground.chain }], guard := none }, { dst := some 74, op := Op.call { callee := Callee.value (Operand.func 41), args := #[Operand.tmp 69, Operand.tmp 73], argTypes := #[30, 30] }, type := 4, pos := "law.go:108", after := #[{ on := 3, ground := Ground.data }, { on := 7, ground := Ground.data }, { on := 7, ground := Ground.chain }], guard := none }, { dst := some 75, op := Op.move (Operand.tmp 9), type := 4, pos := "law.go:108", after := #[], guard := none }, { dst := some 76, op := Op.binOp BinOp.eql 4 (Operand.tmp 74) (Operand.tmp 75) 4, type := 4, pos := "law.go:108", after := #[{ on := 8, ground := Ground.data }, { on := 9, ground := Ground.data }], guard := none }, { dst := some 77, op := Op.move (Operand.tmp 76), type := 4, pos := "law.go:108", after := #[{ on := 10, ground := Ground.data }, { on := 8, ground := Ground.chain }], guard := none }, { dst := some 78, op := Op.load 30 (Operand.tmp 10), type := 30, pos := "law.go:108", after := #[{ on := 11, ground := Ground.guard }], guard := some (11, true) }, { dst := some 79, op := Op.load 30 (Operand.tmp 11), type := 30, pos := "law.go:108", after := #[{ on := 11, ground := Ground.guard }], guard := some (11, true) }, { dst := some 80, op := Op.call { callee := Callee.value (Operand.func 41), args := #[Operand.tmp 78, Operand.tmp 79], argTypes := #[30, 30] }, type := 4, pos := "law.go:108", after := #[{ on := 12, ground := Ground.data }, { on := 13, ground := Ground.data }, { on := 11, ground := Ground.chain }, { on := 11, ground := Ground.guard }], guard := some (11, true) }, { dst := some 81, op := Op.move (Operand.tmp 9), type := 4, pos := "law.go:108", after := #[{ on := 11, ground := Ground.guard }], guard := some (11, true) }, { dst := some 82, op := Op.binOp BinOp.eql 4 (Operand.tmp 80) (Operand.tmp 81) 4, type := 4, pos := "law.go:108", after := #[{ on := 14, ground := Ground.data }, { on := 15, ground := Ground.data }, { on := 11, ground := Ground.guard }], guard := some (11, true) }, { dst := some 83, op := Op.pick (Operand.tmp 77) (Operand.tmp 82) (Operand.const (Value.bool false)), type := 4, pos := "law.go:108", after := #[{ on := 11, ground := Ground.data }, { on := 16, ground := Ground.data }], guard := none }, { dst := some 6, op := Op.assign (Operand.tmp 83), type := 4, pos := "law.go:108", after := #[{ on := 17, ground := Ground.data }, { on := 14, ground := Ground.chain }, { on := 0, ground := Ground.phase }, { on := 1, ground := Ground.phase }, { on := 2, ground := Ground.phase }, { on := 3, ground := Ground.phase }, { on := 4, ground := Ground.phase }, { on := 5, ground := Ground.phase }, { on := 6, ground := Ground.phase }, { on := 7, ground := Ground.phase }, { on := 8, ground := Ground.phase }, { on := 9, ground := Ground.phase }, { on := 10, ground := Ground.phase }, { on := 11, ground := Ground.phase }, { on := 12, ground := Ground.phase }, { on := 13, ground := Ground.phase }, { on := 14, ground := Ground.phase }, { on := 15, ground := Ground.phase }, { on := 16, ground := Ground.phase }, { on := 17, ground := Ground.phase }], guard := none }] true).wp Try.prog Q a w := by
  have hmx : Try.prog.follows .mixedOrders = true := by kernel_rfl
  refine region_detR 19 hmx hr (by kernel_rfl) ?_
  refine DetR.is (o := { dst := some 66, op := Op.load 30 (Operand.tmp 7), type := 30, pos := "law.go:108", after := #[], guard := none }) (u := ?ux101) rfl (by decide) (fun T w' hb hd hB K hK => ?sx101) ?rx101
  case sx101 =>
    have e7 := (hB 7 (by kernel_rfl)).trans hT7
    have q7_0 : w'.cell? ⟨ga, 0, none⟩ = some (xf) := (blk_cell (blk_below hX7 hb) 0).trans rfl
    have q7_1 : w'.cell? ⟨ga, 1, none⟩ = some (xl) := (blk_cell (blk_below hX7 hb) 1).trans rfl
    rw [if_pos (wanted_none _ rfl)]
    clear hd hB
    go_simp
    exact hK _ (Below.refl _ _)
  refine DetR.is (o := { dst := some 67, op := Op.move (Operand.tmp 2), type := 5, pos := "law.go:108", after := #[], guard := none }) (u := ?ux102) rfl (by decide) (fun T w' hb hd hB K hK => ?sx102) ?rx102
  case sx102 =>
    have e2 := (hB 2 (by kernel_rfl)).trans hT2
    rw [if_pos (wanted_none _ rfl)]
    clear hd hB
    go_simp
    exact hK _ (Below.refl _ _)
  refine DetR.is (o := { dst := some 68, op := Op.convert 5 3 (Operand.tmp 67), type := 3, pos := "law.go:108", after := #[{ on := 1, ground := Ground.data }], guard := none }) (u := .int .i64 f) rfl (by decide) (fun T w' hb hd hB K hK => ?sx103) ?rx103
  case sx103 =>
    have e67 := hd 1 67 _ (by decide) (by kernel_rfl) rfl rfl
    replace e67 : T.getD 67 undef = _ := e67
    rw [if_pos (wanted_none _ rfl)]
    clear hd hB
    go_simp
    rw [show IntKind.i64.wrap f = f from by rw [i64_w]; unfold wrap64; omega]
    exact hK _ (Below.refl _ _)
  refine DetR.cons (o := { dst := some 69, op := Op.call { callee := Callee.value (Operand.func 49), args := #[Operand.tmp 66, Operand.tmp 68], argTypes := #[30, 3] }, type := 30, pos := "law.go:108", after := #[{ on := 0, ground := Ground.data }, { on := 2, ground := Ground.data }], guard := none }) (TermTold k30 rf rs) rfl (by decide) (TermTold.grows _ _ _) (fun T w' hb hd hB K hK => ?sx104) ?rx104
  case sx104 =>
    have e66 := hd 0 66 _ (by decide) (by kernel_rfl) rfl rfl
    replace e66 : T.getD 66 undef = _ := e66
    have e68 := hd 2 68 _ (by decide) (by kernel_rfl) rfl rfl
    replace e68 : T.getD 68 undef = _ := e68
    rw [if_pos (wanted_none _ rfl)]
    have hcl := hF3 w' hb
    clear hd hB
    go_simp
    go_at_call 49
    refine hcl.mono ?_
    rintro e w2 ⟨u, rfl, h1, h2⟩
    exact hK _ _ h2 h1
  refine DetR.is (o := { dst := some 70, op := Op.load 30 (Operand.tmp 8), type := 30, pos := "law.go:108", after := #[], guard := none }) (u := ?ux105) rfl (by decide) (fun T w' hb hd hB K hK => ?sx105) ?rx105
  case sx105 =>
    have e8 := (hB 8 (by kernel_rfl)).trans hT8
    have q8_0 : w'.cell? ⟨gb, 0, none⟩ = some (yf) := (blk_cell (blk_below hX8 hb) 0).trans rfl
    have q8_1 : w'.cell? ⟨gb, 1, none⟩ = some (yl) := (blk_cell (blk_below hX8 hb) 1).trans rfl
    rw [if_pos (wanted_none _ rfl)]
    clear hd hB
    go_simp
    exact hK _ (Below.refl _ _)
  refine DetR.is (o := { dst := some 71, op := Op.move (Operand.tmp 2), type := 5, pos := "law.go:108", after := #[], guard := none }) (u := ?ux106) rfl (by decide) (fun T w' hb hd hB K hK => ?sx106) ?rx106
  case sx106 =>
    have e2 := (hB 2 (by kernel_rfl)).trans hT2
    rw [if_pos (wanted_none _ rfl)]
    clear hd hB
    go_simp
    exact hK _ (Below.refl _ _)
  refine DetR.is (o := { dst := some 72, op := Op.convert 5 3 (Operand.tmp 71), type := 3, pos := "law.go:108", after := #[{ on := 5, ground := Ground.data }], guard := none }) (u := .int .i64 f) rfl (by decide) (fun T w' hb hd hB K hK => ?sx107) ?rx107
  case sx107 =>
    have e71 := hd 5 71 _ (by decide) (by kernel_rfl) rfl rfl
    replace e71 : T.getD 71 undef = _ := e71
    rw [if_pos (wanted_none _ rfl)]
    clear hd hB
    go_simp
    rw [show IntKind.i64.wrap f = f from by rw [i64_w]; unfold wrap64; omega]
    exact hK _ (Below.refl _ _)
  refine DetR.cons (o := { dst := some 73, op := Op.call { callee := Callee.value (Operand.func 49), args := #[Operand.tmp 70, Operand.tmp 72], argTypes := #[30, 3] }, type := 30, pos := "law.go:108", after := #[{ on := 4, ground := Ground.data }, { on := 6, ground := Ground.data }, { on := 3, ground := Ground.chain }], guard := none }) (TermTold k30 sf ss) rfl (by decide) (TermTold.grows _ _ _) (fun T w' hb hd hB K hK => ?sx108) ?rx108
  case sx108 =>
    have e70 := hd 4 70 _ (by decide) (by kernel_rfl) rfl rfl
    replace e70 : T.getD 70 undef = _ := e70
    have e72 := hd 6 72 _ (by decide) (by kernel_rfl) rfl rfl
    replace e72 : T.getD 72 undef = _ := e72
    rw [if_pos (wanted_none _ rfl)]
    have hcl := hF7 w' hb
    clear hd hB
    go_simp
    go_at_call 49
    refine hcl.mono ?_
    rintro e w2 ⟨u, rfl, h1, h2⟩
    exact hK _ _ h2 h1
  refine DetR.is (o := { dst := some 74, op := Op.call { callee := Callee.value (Operand.func 41), args := #[Operand.tmp 69, Operand.tmp 73], argTypes := #[30, 30] }, type := 4, pos := "law.go:108", after := #[{ on := 3, ground := Ground.data }, { on := 7, ground := Ground.data }, { on := 7, ground := Ground.chain }], guard := none }) (u := .bool g) rfl (by decide) (fun T w' hb hd hB K hK => ?sx109) ?rx109
  case sx109 =>
    obtain ⟨A69, c69, e69, hl69, hC69⟩ := (hd 3 69 _ (by decide) (by kernel_rfl) rfl rfl)
    obtain ⟨A73, c73, e73, hl73, hC73⟩ := (hd 7 73 _ (by decide) (by kernel_rfl) rfl rfl)
    rw [if_pos (wanted_none _ rfl)]
    have hcl := hG w' A69 A73 c69 c73 hb hl69 hC69 hl73 hC73
    clear hd hB
    go_simp
    go_at_call 41
    refine hcl.mono ?_
    rintro e w2 ⟨rfl, h2⟩
    exact hK _ h2
  refine DetR.is (o := { dst := some 75, op := Op.move (Operand.tmp 9), type := 4, pos := "law.go:108", after := #[], guard := none }) (u := ?ux110) rfl (by decide) (fun T w' hb hd hB K hK => ?sx110) ?rx110
  case sx110 =>
    have e9 := (hB 9 (by kernel_rfl)).trans hT9
    rw [if_pos (wanted_none _ rfl)]
    clear hd hB
    go_simp
    exact hK _ (Below.refl _ _)
  refine DetR.is (o := { dst := some 76, op := Op.binOp BinOp.eql 4 (Operand.tmp 74) (Operand.tmp 75) 4, type := 4, pos := "law.go:108", after := #[{ on := 8, ground := Ground.data }, { on := 9, ground := Ground.data }], guard := none }) (u := .bool true) rfl (by decide) (fun T w' hb hd hB K hK => ?sx111) ?rx111
  case sx111 =>
    have e74 := hd 8 74 _ (by decide) (by kernel_rfl) rfl rfl
    replace e74 : T.getD 74 undef = _ := e74
    have e75 := hd 9 75 _ (by decide) (by kernel_rfl) rfl rfl
    replace e75 : T.getD 75 undef = _ := e75
    rw [if_pos (wanted_none _ rfl)]
    clear hd hB
    go_simp
    try simp only [beq_self_eq_true]
    exact hK _ (Below.refl _ _)
  refine DetR.is (o := { dst := some 77, op := Op.move (Operand.tmp 76), type := 4, pos := "law.go:108", after := #[{ on := 10, ground := Ground.data }, { on := 8, ground := Ground.chain }], guard := none }) (u := .bool true) rfl (by decide) (fun T w' hb hd hB K hK => ?sx112) ?rx112
  case sx112 =>
    have e76 := hd 10 76 _ (by decide) (by kernel_rfl) rfl rfl
    replace e76 : T.getD 76 undef = _ := e76
    rw [if_pos (wanted_none _ rfl)]
    clear hd hB
    go_simp
    exact hK _ (Below.refl _ _)
  refine DetR.is (o := { dst := some 78, op := Op.load 30 (Operand.tmp 10), type := 30, pos := "law.go:108", after := #[{ on := 11, ground := Ground.guard }], guard := some (11, true) }) (u := ?ux113) rfl (by decide) (fun T w' hb hd hB K hK => ?sx113) ?rx113
  case sx113 =>
    have e10 := (hB 10 (by kernel_rfl)).trans hT10
    have q10_0 : w'.cell? ⟨gu, 0, none⟩ = some (.int .i64 9) := (blk_cell (blk_below hX10 hb) 0).trans rfl
    have q10_1 : w'.cell? ⟨gu, 1, none⟩ = some (.slice (some ⟨g2, 0, none⟩) 2 2) := (blk_cell (blk_below hX10 hb) 1).trans rfl
    have eg := hd 11 77 _ (by decide) (by kernel_rfl) rfl rfl
    replace eg : T.getD 77 undef = .bool true := eg
    rw [if_pos (wanted_yes 11 77 true rfl rfl eg)]
    clear eg
    clear hd hB
    go_simp
    exact hK _ (Below.refl _ _)
  refine DetR.is (o := { dst := some 79, op := Op.load 30 (Operand.tmp 11), type := 30, pos := "law.go:108", after := #[{ on := 11, ground := Ground.guard }], guard := some (11, true) }) (u := ?ux114) rfl (by decide) (fun T w' hb hd hB K hK => ?sx114) ?rx114
  case sx114 =>
    have e11 := (hB 11 (by kernel_rfl)).trans hT11
    have q11_0 : w'.cell? ⟨gd, 0, none⟩ = some (.int .i64 9) := (blk_cell (blk_below hX11 hb) 0).trans rfl
    have q11_1 : w'.cell? ⟨gd, 1, none⟩ = some (.slice (some ⟨g5, 0, none⟩) 2 2) := (blk_cell (blk_below hX11 hb) 1).trans rfl
    have eg := hd 11 77 _ (by decide) (by kernel_rfl) rfl rfl
    replace eg : T.getD 77 undef = .bool true := eg
    rw [if_pos (wanted_yes 11 77 true rfl rfl eg)]
    clear eg
    clear hd hB
    go_simp
    exact hK _ (Below.refl _ _)
  refine DetR.is (o := { dst := some 80, op := Op.call { callee := Callee.value (Operand.func 41), args := #[Operand.tmp 78, Operand.tmp 79], argTypes := #[30, 30] }, type := 4, pos := "law.go:108", after := #[{ on := 12, ground := Ground.data }, { on := 13, ground := Ground.data }, { on := 11, ground := Ground.chain }, { on := 11, ground := Ground.guard }], guard := some (11, true) }) (u := ?ux115) rfl (by decide) (fun T w' hb hd hB K hK => ?sx115) ?rx115
  case sx115 =>
    have e78 := hd 12 78 _ (by decide) (by kernel_rfl) rfl rfl
    replace e78 : T.getD 78 undef = _ := e78
    have e79 := hd 13 79 _ (by decide) (by kernel_rfl) rfl rfl
    replace e79 : T.getD 79 undef = _ := e79
    have eg := hd 11 77 _ (by decide) (by kernel_rfl) rfl rfl
    replace eg : T.getD 77 undef = .bool true := eg
    rw [if_pos (wanted_yes 11 77 true rfl rfl eg)]
    clear eg
    have hcl := hF14 w' hb
    clear hd hB
    go_simp
    go_at_call 41
    refine hcl.mono ?_
    rintro e w2 ⟨rfl, h2⟩
    exact hK _ h2
  refine DetR.is (o := { dst := some 81, op := Op.move (Operand.tmp 9), type := 4, pos := "law.go:108", after := #[{ on := 11, ground := Ground.guard }], guard := some (11, true) }) (u := ?ux116) rfl (by decide) (fun T w' hb hd hB K hK => ?sx116) ?rx116
  case sx116 =>
    have e9 := (hB 9 (by kernel_rfl)).trans hT9
    have eg := hd 11 77 _ (by decide) (by kernel_rfl) rfl rfl
    replace eg : T.getD 77 undef = .bool true := eg
    rw [if_pos (wanted_yes 11 77 true rfl rfl eg)]
    clear eg
    clear hd hB
    go_simp
    exact hK _ (Below.refl _ _)
  refine DetR.is (o := { dst := some 82, op := Op.binOp BinOp.eql 4 (Operand.tmp 80) (Operand.tmp 81) 4, type := 4, pos := "law.go:108", after := #[{ on := 14, ground := Ground.data }, { on := 15, ground := Ground.data }, { on := 11, ground := Ground.guard }], guard := some (11, true) }) (u := .bool true) rfl (by decide) (fun T w' hb hd hB K hK => ?sx117) ?rx117
  case sx117 =>
    have e80 := hd 14 80 _ (by decide) (by kernel_rfl) rfl rfl
    replace e80 : T.getD 80 undef = _ := e80
    have e81 := hd 15 81 _ (by decide) (by kernel_rfl) rfl rfl
    replace e81 : T.getD 81 undef = _ := e81
    have eg := hd 11 77 _ (by decide) (by kernel_rfl) rfl rfl
    replace eg : T.getD 77 undef = .bool true := eg
    rw [if_pos (wanted_yes 11 77 true rfl rfl eg)]
    clear eg
    clear hd hB
    go_simp
    try simp only [beq_self_eq_true]
    exact hK _ (Below.refl _ _)
  refine DetR.is (o := { dst := some 83, op := Op.pick (Operand.tmp 77) (Operand.tmp 82) (Operand.const (Value.bool false)), type := 4, pos := "law.go:108", after := #[{ on := 11, ground := Ground.data }, { on := 16, ground := Ground.data }], guard := none }) (u := .bool true) rfl (by decide) (fun T w' hb hd hB K hK => ?sx118) ?rx118
  case sx118 =>
    have e77 := hd 11 77 _ (by decide) (by kernel_rfl) rfl rfl
    replace e77 : T.getD 77 undef = _ := e77
    have e82 := hd 16 82 _ (by decide) (by kernel_rfl) rfl rfl
    replace e82 : T.getD 82 undef = _ := e82
    rw [if_pos (wanted_none _ rfl)]
    clear hd hB
    go_simp
    exact hK _ (Below.refl _ _)
  refine DetR.is (o := { dst := some 6, op := Op.assign (Operand.tmp 83), type := 4, pos := "law.go:108", after := #[{ on := 17, ground := Ground.data }, { on := 14, ground := Ground.chain }, { on := 0, ground := Ground.phase }, { on := 1, ground := Ground.phase }, { on := 2, ground := Ground.phase }, { on := 3, ground := Ground.phase }, { on := 4, ground := Ground.phase }, { on := 5, ground := Ground.phase }, { on := 6, ground := Ground.phase }, { on := 7, ground := Ground.phase }, { on := 8, ground := Ground.phase }, { on := 9, ground := Ground.phase }, { on := 10, ground := Ground.phase }, { on := 11, ground := Ground.phase }, { on := 12, ground := Ground.phase }, { on := 13, ground := Ground.phase }, { on := 14, ground := Ground.phase }, { on := 15, ground := Ground.phase }, { on := 16, ground := Ground.phase }, { on := 17, ground := Ground.phase }], guard := none }) (u := ?ux119) rfl (by decide) (fun T w' hb hd hB K hK => ?sx119) ?rx119
  case sx119 =>
    have e83 := hd 17 83 _ (by decide) (by kernel_rfl) rfl rfl
    replace e83 : T.getD 83 undef = _ := e83
    rw [if_pos (wanted_none _ rfl)]
    clear hd hB
    go_simp
    exact hK _ (Below.refl _ _)
  refine DetR.done [some 66, some 67, some 68, some 69, some 70, some 71, some 72, some 73, some 74, some 75, some 76, some 77, some 78, some 79, some 80, some 81, some 82, some 83, some 6] (by kernel_rfl) rfl (by kernel_rfl) ?_
  intro v w' hb hv
  exact hK v w' hb (hv 18 _ (by decide) rfl)
end Go.Proofs.Ytpfddihcikiofaa.P
end

section
namespace Go.Proofs.Ytpfddihcikiofaa.P
open Go.RowKit Go.Proofs.YtpfddihcikiofaaW.PrintWords Go.Proofs.YtpfddihcikiofaaW.PrintLast Go.Proofs.YtpfddihcikiofaaW.PrintMore
set_option linter.unusedVariables false
set_option linter.unusedSimpArgs false
theorem below_set2 {N : Nat} {w W : World} {g i j : Nat} {u v : Value} (h : Below N w W) (hg : N ≤ g) : Below N w ((W.setCell ⟨g, i, none⟩ u).setCell ⟨g, j, none⟩ v) := (h.setCell hg _).setCell hg _
end Go.Proofs.Ytpfddihcikiofaa.P
end

section
namespace Go.Proofs.Ytpfddihcikiofaa.P
open Go.RowKit Go.Proofs.YtpfddihcikiofaaW.PrintWords Go.Proofs.YtpfddihcikiofaaW.PrintLast Go.Proofs.YtpfddihcikiofaaW.PrintMore
attribute [local go_sem] max2_int min2_int max_two min_two max_three min_three max_four min_four
set_option linter.unusedVariables false
set_option linter.unusedSimpArgs false
theorem variable_calls (v : Int) (w : World) : Calls Try.prog 83 #[.int .i64 v] w fun e w' => e = .returned (.agg #[.int .i64 (wrap64 (-1 - v)), .slice none 0 0]) ∧ Below w.heap.size w w' := by
  go_enter Try.func83, Try.ntmps83
  go_wp2
  refine bodyPost_ret (results_cell_row rfl _ _ w.heap.size 30 #[.int .i64 (wrap64 (-1 - v)), .slice none 0 0] (0, 0) _ rfl (heap_alloc_new w _) Try.underlying30 rfl (by kernel_rfl)) rfl ?_
  exact ⟨rfl, below_alloc (Below.refl _ _) _⟩
def renameV (a1 v : Int) : Option (Int × List S30) := some (wrap64 (-1 - wrap64 (v + mx a1 0)), [])
theorem rename1_calls (gq : Nat) (a1 v r1 : Int) (r2 : List S30) (w : World) (hq : w.heap[gq]? = some (.cells #[.int .i64 a1] 3 (0, 0))) (h : renameV a1 v = some (r1, r2)) :
    Calls Try.prog 82 #[.int .i64 v, .pointer (some ⟨gq, 0, none⟩)] w fun e w' => ∃ v1 : Value, e = .returned (.agg #[.int .i64 r1, v1]) ∧ Kd.R k30 30 w' w.heap.size (fun _ => True) v1 r2 ∧ Below w.heap.size w w' := by
  unfold renameV at h
  injection h with h
  injection h with h1 h2
  subst h1 h2
  have q0 : (w.alloc (.cells #[.int .i64 0, .slice none 0 0] 30)).cell? ⟨gq, 0, none⟩ = some (.int .i64 a1) := (blk_cell (blk_alloc hq _) 0).trans rfl
  have hbx := heap_alloc_new w (.cells #[.int .i64 0, .slice none 0 0] 30)
  have hb0 := below_alloc (Below.refl w.heap.size w) (.cells #[.int .i64 0, .slice none 0 0] 30)
  have key : mx a1 0 = if a1 < 0 then 0 else a1 := rfl
  rw [key]
  clear key hq
  by_cases hp : a1 < 0
  · have hd : decide (a1 < 0) = true := decide_eq_true hp
    rw [if_pos hp]
    go_enter Try.func82, Try.ntmps82
    go_wp2_with (go_at_call 83; refine (variable_calls _ _).mono ?_; rintro e w2 ⟨rfl, hb⟩; have hbx2 := blk_below hbx hb; have z0 : w2.cell? ⟨w.heap.size, 0, none⟩ = some (.int .i64 0) := (blk_cell hbx2 0).trans rfl; have z1 : w2.cell? ⟨w.heap.size, 1, none⟩ = some (.slice none 0 0) := (blk_cell hbx2 1).trans rfl; have y0 := blk_frozen hbx2 0; have y1 := blk_frozen hbx2 1; have hB := hb0.trans (hb.mono hb0.size))
    refine bodyPost_ret (results_cell_row rfl _ _ w.heap.size 30 #[.int .i64 (wrap64 (-1 - wrap64 v)), .slice none 0 0] (0, 0) _ rfl ((blk_set (blk_set hbx2 0 _) 1 _).trans rfl) Try.underlying30 rfl (by kernel_rfl)) rfl ?_
    exact ⟨_, by rw [Int.add_zero], Kd.R_nil _ _ _ _ _, below_set2 hB (Nat.le_refl _)⟩
  · have hd : decide (a1 < 0) = false := decide_eq_false hp
    rw [if_neg hp]
    go_enter Try.func82, Try.ntmps82
    go_wp2_with (go_at_call 83; refine (variable_calls _ _).mono ?_; rintro e w2 ⟨rfl, hb⟩; have hbx2 := blk_below hbx hb; have z0 : w2.cell? ⟨w.heap.size, 0, none⟩ = some (.int .i64 0) := (blk_cell hbx2 0).trans rfl; have z1 : w2.cell? ⟨w.heap.size, 1, none⟩ = some (.slice none 0 0) := (blk_cell hbx2 1).trans rfl; have y0 := blk_frozen hbx2 0; have y1 := blk_frozen hbx2 1; have hB := hb0.trans (hb.mono hb0.size))
    refine bodyPost_ret (results_cell_row rfl _ _ w.heap.size 30 #[.int .i64 (wrap64 (-1 - wrap64 (v + a1))), .slice none 0 0] (0, 0) _ rfl ((blk_set (blk_set hbx2 0 _) 1 _).trans rfl) Try.underlying30 rfl (by kernel_rfl)) rfl ?_
    exact ⟨_, rfl, Kd.R_nil _ _ _ _ _, below_set2 hB (Nat.le_refl _)⟩
end Go.Proofs.Ytpfddihcikiofaa.P
end

section
namespace Go.Proofs.Ytpfddihcikiofaa.P
open Go.RowKit Go.Proofs.YtpfddihcikiofaaW.PrintWords Go.Proofs.YtpfddihcikiofaaW.PrintLast Go.Proofs.YtpfddihcikiofaaW.PrintMore
attribute [local go_sem] max2_int min2_int max_two min_two max_three min_three max_four min_four
set_option linter.unusedVariables false
set_option linter.unusedSimpArgs false
mutual
def subst_mappedR.l0 : Nat → Int → List (S30) → Int → Int → Int → List (S30) → Option (Int × (List (S30)))
  | 0, _, _, _, _, _, _ => none
  | k + 1, x1, x20, x21, x22, x108000, x108001 => if x22 < x21 then (if 0 ≤ x22 then (if x22 < (x20.length : Int) then ((subst_mappedR.f k ((rd_T30 x20 x22).f0) ((rd_T30 x20 x22).f1) x1).bind fun bt110 => (if x108001.length < 4398046511104 then (subst_mappedR.l0 k x1 x20 x21 (wrap64 (x22 + 1)) x108000 (x108001 ++ [(⟨bt110.1, bt110.2⟩ : S30)])) else (none))) else (none)) else (none)) else (some (x108000, x108001))
def subst_mappedR.f : Nat → Int → List (S30) → Int → Option (Int × (List (S30)))
  | 0, _, _, _ => none
  | k + 1, a0_0, l0_1, a1 => if a0_0 < 0 then ((renameV a1 (wrap64 ((-1) - a0_0))).bind fun bt103 => (some (bt103.1, bt103.2))) else (subst_mappedR.l0 k a1 l0_1 (l0_1.length : Int) 0 a0_0 ([] : List (S30)))
end
def subst_mappedR.T7 : Bool × List (List Nat × List Nat) := (true, [([], []), ([0], [0]), ([], []), ([], []), ([2, 3], [2, 3]), ([4], [4]), ([1, 5, 4], [1, 5]), ([0, 1, 2, 3, 4, 5, 6], []), ([7, 6, 6, 0, 1, 2, 3, 4, 5, 6], [6, 7])])
def subst_mappedR.B7 : List Nat := [0, 1, 0, 0, 12, 28, 63, 127, 255]
theorem subst_mappedR.tab7 : rtab .any (opsOf Try.f81 7) = subst_mappedR.T7 := by kernel_rfl
theorem subst_mappedR.bits7 : waitsOk subst_mappedR.T7.2 subst_mappedR.B7 = true := by kernel_rfl
set_option maxHeartbeats 8000000 in
set_option maxRecDepth 100000 in
theorem subst_mappedR.calls (gq : Nat) (k : Nat) : ∀ (a0_0 : Int) (A0_1 : Option Addr) (c0_1 : Nat) (l0_1 : List (S30)) (a1 : Int) (r1 : Int) (r2 : List (S30)) (w : World) (hr0_1 : Kd.C k30 w A0_1 l0_1.length l0_1) (hc0_1 : l0_1.length ≤ c0_1) (hq : w.heap[gq]? = some (.cells #[.int .i64 a1] 3 (0, 0))) (h : subst_mappedR.f k a0_0 l0_1 a1 = some (r1, r2)),
    Calls Try.prog 81 #[.agg #[.int .i64 a0_0, .slice A0_1 l0_1.length c0_1], (.func (.func 82) #[] #[.pointer (some ⟨gq, 0, none⟩)])] w fun e w' => ∃ v1_ : Value, e = .returned (.agg #[.int .i64 r1, v1_]) ∧ Kd.R k30 30 w' w.heap.size (fun _ => True) v1_ r2 ∧ Below w.heap.size w w' := by
  induction k using Nat.strongRecOn with
  | _ k ih =>
  intro a0_0 A0_1 c0_1 l0_1 a1 r1 r2 w hr0_1 hc0_1 hq h
  have HQ : Aside0 (∀ w1, Below w.heap.size w w1 → w1.heap[gq]? = some (.cells #[.int .i64 a1] 3 (0, 0))) := ⟨fun w1 hb => blk_below hq hb⟩
  clear hq
  cases k with
  | zero => exact absurd h (by simp [subst_mappedR.f])
  | succ k =>
  simp only [subst_mappedR.f] at h
  have hu30 := Try.underlying30
  have HR0_1 := Aside0.mk hr0_1
  have HC0_1 := Aside0.mk hc0_1
  clear hr0_1 hc0_1
  have HB := Aside0.mk (Below.refl w.heap.size w)
  have H : (if a0_0 < 0 then ((renameV a1 (wrap64 ((-1) - a0_0))).bind fun bt103 => (some (bt103.1, bt103.2))) else (subst_mappedR.l0 k a1 l0_1 (l0_1.length : Int) 0 a0_0 ([] : List (S30)))) = some (r1, r2) := h
  clear h
  by_cases c3 : a0_0 < 0
  · rw [if_pos c3] at H
    have c3b0 : decide (a0_0 < 0) = true := decide_eq_true c3
    clear c3
    replace H := Option.bind_eq_some_iff.mp H
    obtain ⟨⟨t103, t104⟩, A40, H⟩ := H
    replace H : (some (t103, t104)) = some (r1, r2) := H
    have A4 := Aside0.mk A40
    clear A40
    simp only [Option.some.injEq, Prod.mk.injEq] at H
    obtain ⟨rfl, rfl⟩ := H
    go_enter Try.func81, Try.ntmps81
    go_wp2_with (first | ((with_reducible refine gate_dst (N := 2) rfl ?_); refine box_event ?hg (N := 2) ?hd (cs := #[.int .i64 a0_0, .slice A0_1 l0_1.length c0_1]) (t := 30) ?hr ?_; (case hd => rfl); (case hg => rfl); (case hr => first | (go_simp; done) | (go_simp; rfl)); intro gb101 hg w5 hbox hb; have n0_ := Aside0.mk (below_step (by repeat (first | (with_reducible first | exact HB.out | apply below_alloc | apply pw_below_drewN | apply below_drew1) | exact HB.out)) hb); have n1_ := Aside0.mk (hbox); have n2_ := Aside0.mk ((by rw [hg]; exact (below_size (by repeat (first | (with_reducible first | exact HB.out | apply below_alloc | apply pw_below_drewN | apply below_drew1) | exact HB.out))) : w.heap.size ≤ gb101)); have n3_ := Aside0.mk ((by rw [hg]; exact (below_size (by repeat (first | (with_reducible first | exact HB.out | apply below_alloc | apply pw_below_drewN | apply below_drew1) | exact HB.out))) : w.heap.size ≤ gb101)); clear HB; have HB := n0_; have BK101 := n1_; have GW101 := n2_; have GE101 := n3_; clear n0_ n1_ n2_ n3_; clear hb hbox hg) | ((with_reducible refine gate_dst (N := 4) rfl ?_); refine box_event ?hg (N := 4) ?hd (cs := #[.int .i64 0, .slice none 0 0]) (t := 30) ?hr ?_; (case hd => rfl); (case hg => rfl); (case hr => first | (go_simp; done) | (go_simp; rfl)); intro gb102 hg w6 hbox hb; have n0_ := Aside0.mk (blk_below (g := gb101) (o := .cells #[.int .i64 a0_0, .slice A0_1 l0_1.length c0_1] 30 (0, 0)) (by (with_reducible repeat (first | refine blk_drewN ?_ _ | refine blk_drew ?_ | refine blk_alloc ?_ _)); exact BK101.out) hb); have n1_ := Aside0.mk (below_step (by repeat (first | (with_reducible first | exact HB.out | apply below_alloc | apply pw_below_drewN | apply below_drew1 | refine below_set ?_ GE101.out) | exact HB.out)) hb); have n2_ := Aside0.mk (hbox); have n3_ := Aside0.mk ((by rw [hg]; exact (below_size (by repeat (first | (with_reducible first | exact HB.out | apply below_alloc | apply pw_below_drewN | apply below_drew1 | refine below_set ?_ GE101.out) | exact HB.out))) : w.heap.size ≤ gb102)); have n4_ := Aside0.mk ((by rw [hg]; exact (below_size (by repeat (first | (with_reducible first | exact HB.out | apply below_alloc | apply pw_below_drewN | apply below_drew1 | refine below_set ?_ GE101.out) | exact HB.out))) : w.heap.size ≤ gb102)); have n5_ := Aside0.mk ((by rw [hg]; exact Nat.ne_of_lt (blk_lt (g := gb101) (o := .cells #[.int .i64 a0_0, .slice A0_1 l0_1.length c0_1] 30 (0, 0)) (by (with_reducible repeat (first | refine blk_drewN ?_ _ | refine blk_drew ?_ | refine blk_alloc ?_ _)); exact BK101.out)) : gb101 ≠ gb102)); have n6_ := Aside0.mk ((by rw [hg]; exact Nat.ne_of_gt (blk_lt (g := gb101) (o := .cells #[.int .i64 a0_0, .slice A0_1 l0_1.length c0_1] 30 (0, 0)) (by (with_reducible repeat (first | refine blk_drewN ?_ _ | refine blk_drew ?_ | refine blk_alloc ?_ _)); exact BK101.out)) : gb102 ≠ gb101)); clear BK101; clear HB; have BK101 := n0_; have HB := n1_; have BK102 := n2_; have GW102 := n3_; have GE102 := n4_; have NB101_102 := n5_; have NB102_101 := n6_; clear n0_ n1_ n2_ n3_ n4_ n5_ n6_; clear hb hbox hg; have hnb7 := NB101_102.out; have hnc7 := NB102_101.out; have hcz8_0 : w6.cell? ⟨gb101, 0, none⟩ = some (.int .i64 a0_0) := (blk_cell BK101.out 0).trans rfl; have hcz8_1 : w6.cell? ⟨gb101, 1, none⟩ = some (.slice A0_1 l0_1.length c0_1) := (blk_cell BK101.out 1).trans rfl; have hfz8_0 := blk_frozen BK101.out 0; have hfz8_1 := blk_frozen BK101.out 1) | (go_at_call 82; (refine (rename1_calls gq a1 (wrap64 ((-1) - a0_0)) t103 t104 _ (HQ.out _ (by repeat (first | (with_reducible first | exact HB.out | apply below_alloc | apply pw_below_drewN | apply below_drew1) | exact HB.out))) A4.out).mono ?_); rintro e w9 ⟨v105, rfl, ho0, hb⟩; have n0_ := Aside0.mk (Kd.R_lower (Kd.R_newB (Kd.R_newB ho0 (g := gb101) (o := .cells #[.int .i64 a0_0, .slice A0_1 l0_1.length c0_1] 30 (0, 0)) (by (with_reducible repeat (first | refine blk_drewN ?_ _ | refine blk_drew ?_ | refine blk_alloc ?_ _)); exact BK101.out)) (g := gb102) (o := .cells #[.int .i64 0, .slice none 0 0] 30 (0, 0)) (by (with_reducible repeat (first | refine blk_drewN ?_ _ | refine blk_drew ?_ | refine blk_alloc ?_ _)); exact BK102.out)) (below_size (by repeat (first | (with_reducible first | exact HB.out | apply below_alloc | apply pw_below_drewN | apply below_drew1 | refine below_set ?_ GE101.out | refine below_set ?_ GE102.out) | exact HB.out)))); have n1_ := Aside0.mk (blk_below (g := gb101) (o := .cells #[.int .i64 a0_0, .slice A0_1 l0_1.length c0_1] 30 (0, 0)) (by (with_reducible repeat (first | refine blk_drewN ?_ _ | refine blk_drew ?_ | refine blk_alloc ?_ _)); exact BK101.out) hb); have n2_ := Aside0.mk (blk_below (g := gb102) (o := .cells #[.int .i64 0, .slice none 0 0] 30 (0, 0)) (by (with_reducible repeat (first | refine blk_drewN ?_ _ | refine blk_drew ?_ | refine blk_alloc ?_ _)); exact BK102.out) hb); have n3_ := Aside0.mk (below_step (by repeat (first | (with_reducible first | exact HB.out | apply below_alloc | apply pw_below_drewN | apply below_drew1 | refine below_set ?_ GE101.out | refine below_set ?_ GE102.out) | exact HB.out)) hb); clear BK101; clear BK102; clear HB; have HO106 := n0_; have BK101 := n1_; have BK102 := n2_; have HB := n3_; clear n0_ n1_ n2_ n3_; (try clear hb); (try clear hb2); (try clear hk); (try clear hi); (try clear ho0); have hcz10_0 : w9.cell? ⟨gb102, 0, none⟩ = some (.int .i64 0) := (blk_cell BK102.out 0).trans rfl; have hcz10_1 : w9.cell? ⟨gb102, 1, none⟩ = some (.slice none 0 0) := (blk_cell BK102.out 1).trans rfl; have hfz10_0 := blk_frozen BK102.out 0; have hfz10_1 := blk_frozen BK102.out 1; obtain ⟨Ao11, co11, eo11⟩ := Kd.R_slice HO106.out; subst eo11))
    refine bodyPost_ret (results_cell_row rfl _ _ gb102 30 #[.int .i64 t103, .slice Ao11 t104.length co11] (0, 0) _ rfl (by (with_reducible repeat (first | refine blk_drewN ?_ _ | refine blk_drew ?_ | refine blk_alloc ?_ _)); refine blk_put (cs := #[.int .i64 t103, .slice none 0 0]) ?_ 1 _ rfl; (with_reducible repeat (first | refine blk_drewN ?_ _ | refine blk_drew ?_ | refine blk_alloc ?_ _)); refine blk_put (cs := #[.int .i64 0, .slice none 0 0]) ?_ 0 _ rfl; (with_reducible repeat (first | refine blk_drewN ?_ _ | refine blk_drew ?_ | refine blk_alloc ?_ _)); exact BK102.out) Try.underlying30 rfl (by kernel_rfl)) rfl ?_
    exact ⟨_, by first | rfl | (simp [errW_none, errW_some] <;> rfl) | (simp [*, errW_none, errW_some] <;> rfl), by (with_reducible repeat (first | apply Kd.R_alloc | apply Kd.R_drewN | apply Kd.R_drew)); exact Kd.R_mono (Kd.R_far (p := ⟨gb102, 1, none⟩) (Kd.R_far (p := ⟨gb102, 0, none⟩) (Kd.R_mono HO106.out (fun k_ hk => (⟨hk, hk.2⟩ : _ ∧ k_ ≠ gb102))) (fun _ hk => hk.2) (.int .i64 t103)) (fun _ hk => hk.2) (.slice Ao11 t104.length co11)) (fun _ hk => trivial), by repeat (first | (with_reducible first | exact HB.out | apply below_alloc | apply pw_below_drewN | apply below_drew1 | refine below_set ?_ GE101.out | refine below_set ?_ GE102.out) | exact HB.out)⟩
  · rw [if_neg c3] at H
    have c3b0 : decide (a0_0 < 0) = false := decide_eq_false c3
    clear c3
    have H' := Aside0.mk H
    clear H
    go_enter Try.func81, Try.ntmps81
    go_wp2_with (first | ((with_reducible refine gate_dst (N := 2) rfl ?_); refine box_event ?hg (N := 2) ?hd (cs := #[.int .i64 a0_0, .slice A0_1 l0_1.length c0_1]) (t := 30) ?hr ?_; (case hd => rfl); (case hg => rfl); (case hr => first | (go_simp; done) | (go_simp; rfl)); intro gb101 hg w12 hbox hb; have n0_ := Aside0.mk (below_step (by repeat (first | (with_reducible first | exact HB.out | apply below_alloc | apply pw_below_drewN | apply below_drew1) | exact HB.out)) hb); have n1_ := Aside0.mk (hbox); have n2_ := Aside0.mk ((by rw [hg]; exact (below_size (by repeat (first | (with_reducible first | exact HB.out | apply below_alloc | apply pw_below_drewN | apply below_drew1) | exact HB.out))) : w.heap.size ≤ gb101)); have n3_ := Aside0.mk ((by rw [hg]; exact (below_size (by repeat (first | (with_reducible first | exact HB.out | apply below_alloc | apply pw_below_drewN | apply below_drew1) | exact HB.out))) : w.heap.size ≤ gb101)); clear HB; have HB := n0_; have BK101 := n1_; have GW101 := n2_; have GE101 := n3_; clear n0_ n1_ n2_ n3_; clear hb hbox hg) | ((with_reducible refine gate_dst (N := 4) rfl ?_); refine box_event ?hg (N := 4) ?hd (cs := #[.int .i64 0, .slice none 0 0]) (t := 30) ?hr ?_; (case hd => rfl); (case hg => rfl); (case hr => first | (go_simp; done) | (go_simp; rfl)); intro gb102 hg w13 hbox hb; have n0_ := Aside0.mk (blk_below (g := gb101) (o := .cells #[.int .i64 a0_0, .slice A0_1 l0_1.length c0_1] 30 (0, 0)) (by (with_reducible repeat (first | refine blk_drewN ?_ _ | refine blk_drew ?_ | refine blk_alloc ?_ _)); exact BK101.out) hb); have n1_ := Aside0.mk (below_step (by repeat (first | (with_reducible first | exact HB.out | apply below_alloc | apply pw_below_drewN | apply below_drew1 | refine below_set ?_ GE101.out) | exact HB.out)) hb); have n2_ := Aside0.mk (hbox); have n3_ := Aside0.mk ((by rw [hg]; exact (below_size (by repeat (first | (with_reducible first | exact HB.out | apply below_alloc | apply pw_below_drewN | apply below_drew1 | refine below_set ?_ GE101.out) | exact HB.out))) : w.heap.size ≤ gb102)); have n4_ := Aside0.mk ((by rw [hg]; exact (below_size (by repeat (first | (with_reducible first | exact HB.out | apply below_alloc | apply pw_below_drewN | apply below_drew1 | refine below_set ?_ GE101.out) | exact HB.out))) : w.heap.size ≤ gb102)); have n5_ := Aside0.mk ((by rw [hg]; exact Nat.ne_of_lt (blk_lt (g := gb101) (o := .cells #[.int .i64 a0_0, .slice A0_1 l0_1.length c0_1] 30 (0, 0)) (by (with_reducible repeat (first | refine blk_drewN ?_ _ | refine blk_drew ?_ | refine blk_alloc ?_ _)); exact BK101.out)) : gb101 ≠ gb102)); have n6_ := Aside0.mk ((by rw [hg]; exact Nat.ne_of_gt (blk_lt (g := gb101) (o := .cells #[.int .i64 a0_0, .slice A0_1 l0_1.length c0_1] 30 (0, 0)) (by (with_reducible repeat (first | refine blk_drewN ?_ _ | refine blk_drew ?_ | refine blk_alloc ?_ _)); exact BK101.out)) : gb102 ≠ gb101)); clear BK101; clear HB; have BK101 := n0_; have HB := n1_; have BK102 := n2_; have GW102 := n3_; have GE102 := n4_; have NB101_102 := n5_; have NB102_101 := n6_; clear n0_ n1_ n2_ n3_ n4_ n5_ n6_; clear hb hbox hg; have hnb14 := NB101_102.out; have hnc14 := NB102_101.out; have hcz15_0 : w13.cell? ⟨gb101, 0, none⟩ = some (.int .i64 a0_0) := (blk_cell BK101.out 0).trans rfl; have hcz15_1 : w13.cell? ⟨gb101, 1, none⟩ = some (.slice A0_1 l0_1.length c0_1) := (blk_cell BK101.out 1).trans rfl; have hfz15_0 := blk_frozen BK101.out 0; have hfz15_1 := blk_frozen BK101.out 1) | ((with_reducible refine gate_dst (N := 5) rfl ?_); refine box_event ?hg (N := 5) ?hd (cs := #[.int .i64 0, .slice none 0 0]) (t := 30) ?hr ?_; (case hd => rfl); (case hg => rfl); (case hr => first | (go_simp; done) | (go_simp; rfl)); intro gb107 hg w16 hbox hb; have n0_ := Aside0.mk (blk_below (g := gb101) (o := .cells #[.int .i64 a0_0, .slice A0_1 l0_1.length c0_1] 30 (0, 0)) (by (with_reducible repeat (first | refine blk_drewN ?_ _ | refine blk_drew ?_ | refine blk_alloc ?_ _)); exact BK101.out) hb); have n1_ := Aside0.mk (blk_below (g := gb102) (o := .cells #[.int .i64 0, .slice none 0 0] 30 (0, 0)) (by (with_reducible repeat (first | refine blk_drewN ?_ _ | refine blk_drew ?_ | refine blk_alloc ?_ _)); exact BK102.out) hb); have n2_ := Aside0.mk (below_step (by repeat (first | (with_reducible first | exact HB.out | apply below_alloc | apply pw_below_drewN | apply below_drew1 | refine below_set ?_ GE101.out | refine below_set ?_ GE102.out) | exact HB.out)) hb); have n3_ := Aside0.mk (hbox); have n4_ := Aside0.mk ((by rw [hg]; exact (below_size (by repeat (first | (with_reducible first | exact HB.out | apply below_alloc | apply pw_below_drewN | apply below_drew1 | refine below_set ?_ GE101.out | refine below_set ?_ GE102.out) | exact HB.out))) : w.heap.size ≤ gb107)); have n5_ := Aside0.mk ((by rw [hg]; exact (below_size (by repeat (first | (with_reducible first | exact HB.out | apply below_alloc | apply pw_below_drewN | apply below_drew1 | refine below_set ?_ GE101.out | refine below_set ?_ GE102.out) | exact HB.out))) : w.heap.size ≤ gb107)); have n6_ := Aside0.mk ((by rw [hg]; exact Nat.ne_of_lt (blk_lt (g := gb101) (o := .cells #[.int .i64 a0_0, .slice A0_1 l0_1.length c0_1] 30 (0, 0)) (by (with_reducible repeat (first | refine blk_drewN ?_ _ | refine blk_drew ?_ | refine blk_alloc ?_ _)); exact BK101.out)) : gb101 ≠ gb107)); have n7_ := Aside0.mk ((by rw [hg]; exact Nat.ne_of_gt (blk_lt (g := gb101) (o := .cells #[.int .i64 a0_0, .slice A0_1 l0_1.length c0_1] 30 (0, 0)) (by (with_reducible repeat (first | refine blk_drewN ?_ _ | refine blk_drew ?_ | refine blk_alloc ?_ _)); exact BK101.out)) : gb107 ≠ gb101)); have n8_ := Aside0.mk ((by rw [hg]; exact Nat.ne_of_lt (blk_lt (g := gb102) (o := .cells #[.int .i64 0, .slice none 0 0] 30 (0, 0)) (by (with_reducible repeat (first | refine blk_drewN ?_ _ | refine blk_drew ?_ | refine blk_alloc ?_ _)); exact BK102.out)) : gb102 ≠ gb107)); have n9_ := Aside0.mk ((by rw [hg]; exact Nat.ne_of_gt (blk_lt (g := gb102) (o := .cells #[.int .i64 0, .slice none 0 0] 30 (0, 0)) (by (with_reducible repeat (first | refine blk_drewN ?_ _ | refine blk_drew ?_ | refine blk_alloc ?_ _)); exact BK102.out)) : gb107 ≠ gb102)); clear BK101; clear BK102; clear HB; have BK101 := n0_; have BK102 := n1_; have HB := n2_; have BK107 := n3_; have GW107 := n4_; have GE107 := n5_; have NB101_107 := n6_; have NB107_101 := n7_; have NB102_107 := n8_; have NB107_102 := n9_; clear n0_ n1_ n2_ n3_ n4_ n5_ n6_ n7_ n8_ n9_; clear hb hbox hg; have hnb17 := NB107_101.out; have hnc17 := NB101_107.out; have hnb18 := NB107_102.out; have hnc18 := NB102_107.out; have hcz19_0 : w16.cell? ⟨gb107, 0, none⟩ = some (.int .i64 0) := (blk_cell BK107.out 0).trans rfl; have hcz19_1 : w16.cell? ⟨gb107, 1, none⟩ = some (.slice none 0 0) := (blk_cell BK107.out 1).trans rfl; have hfz19_0 := blk_frozen BK107.out 0; have hfz19_1 := blk_frozen BK107.out 1; have hcz20_0 : w16.cell? ⟨gb101, 0, none⟩ = some (.int .i64 a0_0) := (blk_cell BK101.out 0).trans rfl; have hcz20_1 : w16.cell? ⟨gb101, 1, none⟩ = some (.slice A0_1 l0_1.length c0_1) := (blk_cell BK101.out 1).trans rfl; have hfz20_0 := blk_frozen BK101.out 0; have hfz20_1 := blk_frozen BK101.out 1))
    go_loopg [22] k (fun kq v22 w' => ∃ (x22_1 : Int) (x108001_1 : List (S30)) (u108001 : Value), v22 = .int .i64 x22_1 ∧ Aside0 (subst_mappedR.l0 kq a1 l0_1 (l0_1.length : Int) x22_1 a0_0 x108001_1 = some (r1, r2)) ∧ Aside0 (kq ≤ k) ∧ Aside0 (Kd.R k30 30 w' w.heap.size (fun k_ => k_ ≠ gb101 ∧ k_ ≠ gb102 ∧ k_ ≠ gb107) u108001 x108001_1) ∧ Aside0 (w'.heap[gb101]? = some (.cells #[.int .i64 a0_0, (.slice A0_1 l0_1.length c0_1)] 30 (0, 0))) ∧ Aside0 (w'.heap[gb102]? = some (.cells #[.int .i64 0, (.slice none 0 0)] 30 (0, 0))) ∧ Aside0 (w'.heap[gb107]? = some (.cells #[.int .i64 a0_0, u108001] 30 (0, 0))) ∧ Aside0 (Below w.heap.size w w'))
    case atStart => exact ⟨(0), (([] : List (S30))), (.slice none 0 0), (by first | rfl | (simp; done) | (simp [*]; done)), H', ⟨Nat.le_refl _⟩, ⟨by first | exact Kd.R_nil _ _ _ _ _ | exact Kd.N_nil _ _ _ _ _ | exact Kd.V_nil _ _ _ _ _ | exact Kd.Q_nil _ _ _ _ _ | exact Kd.S_nil _ _ _ _ _⟩, ⟨by (with_reducible repeat (first | refine blk_drewN ?_ _ | refine blk_drew ?_ | refine blk_alloc ?_ _)); refine blk_far ?_ NB101_107.out _; (with_reducible repeat (first | refine blk_drewN ?_ _ | refine blk_drew ?_ | refine blk_alloc ?_ _)); refine blk_far ?_ NB101_107.out _; (with_reducible repeat (first | refine blk_drewN ?_ _ | refine blk_drew ?_ | refine blk_alloc ?_ _)); exact BK101.out⟩, ⟨by (with_reducible repeat (first | refine blk_drewN ?_ _ | refine blk_drew ?_ | refine blk_alloc ?_ _)); refine blk_far ?_ NB102_107.out _; (with_reducible repeat (first | refine blk_drewN ?_ _ | refine blk_drew ?_ | refine blk_alloc ?_ _)); refine blk_far ?_ NB102_107.out _; (with_reducible repeat (first | refine blk_drewN ?_ _ | refine blk_drew ?_ | refine blk_alloc ?_ _)); exact BK102.out⟩, ⟨by (with_reducible repeat (first | refine blk_drewN ?_ _ | refine blk_drew ?_ | refine blk_alloc ?_ _)); refine blk_put (cs := #[.int .i64 a0_0, .slice none 0 0]) ?_ 1 _ rfl; (with_reducible repeat (first | refine blk_drewN ?_ _ | refine blk_drew ?_ | refine blk_alloc ?_ _)); refine blk_put (cs := #[.int .i64 0, .slice none 0 0]) ?_ 0 _ rfl; (with_reducible repeat (first | refine blk_drewN ?_ _ | refine blk_drew ?_ | refine blk_alloc ?_ _)); exact BK107.out⟩, ⟨by repeat (first | (with_reducible first | exact HB.out | apply below_alloc | apply pw_below_drewN | apply below_drew1 | refine below_set ?_ GE101.out | refine below_set ?_ GE102.out | refine below_set ?_ GE107.out) | exact HB.out)⟩⟩
    case round =>
      clear H'
      try clear c1
      try clear p2
      try clear c3
      try clear c3b0
      try clear p6
      try clear c7
      try clear c8
      try clear c14
      try clear c17
      try clear c18
      try clear hcz10_0
      try clear hcz10_1
      try clear hcz15_0
      try clear hcz15_1
      try clear hcz19_0
      try clear hcz19_1
      try clear hcz20_0
      try clear hcz20_1
      try clear hcz8_0
      try clear hcz8_1
      try clear hfz10_0
      try clear hfz10_1
      try clear hfz15_0
      try clear hfz15_1
      try clear hfz19_0
      try clear hfz19_1
      try clear hfz20_0
      try clear hfz20_1
      try clear hfz8_0
      try clear hfz8_1
      obtain ⟨x22_1, x108001_1, u108001, rfl, HA, HK1, HO_108001, BK101, BK102, BK107, HB⟩ := hrel
      cases gk with
      | zero => exact absurd HA.out (by simp [subst_mappedR.l0])
      | succ k1 =>
        have H := HA.out
        clear HA
        simp only [subst_mappedR.l0] at H
        by_cases c21 : x22_1 < (l0_1.length : Int)
        · rw [if_pos c21] at H
          have c21b0 : decide (x22_1 < (l0_1.length : Int)) = true := decide_eq_true c21
          clear c21
          by_cases c22 : 0 ≤ x22_1
          · rw [if_pos c22] at H
            have c22b0 : decide (0 ≤ x22_1) = true := decide_eq_true c22
            clear c22
            by_cases c23 : x22_1 < (l0_1.length : Int)
            · rw [if_pos c23] at H
              have c23b0 : decide (x22_1 < (l0_1.length : Int)) = true := decide_eq_true c23
              clear c23
              replace H := Option.bind_eq_some_iff.mp H
              obtain ⟨⟨t110, t111⟩, A240, H⟩ := H
              replace H : (if x108001_1.length < 4398046511104 then (subst_mappedR.l0 k1 a1 l0_1 (l0_1.length : Int) (wrap64 (x22_1 + 1)) a0_0 (x108001_1 ++ [(⟨t110, t111⟩ : S30)])) else (none)) = some (r1, r2) := H
              have A24 := Aside0.mk A240
              clear A240
              by_cases c25 : x108001_1.length < 4398046511104
              · rw [if_pos c25] at H
                have LMc25 := Aside0.mk c25
                clear c25
                obtain ⟨y114, hy114⟩ : ∃ y_ : List (S30), y_ = (x108001_1 ++ [(⟨t110, t111⟩ : S30)]) := ⟨_, rfl⟩
                replace H : (subst_mappedR.l0 k1 a1 l0_1 (l0_1.length : Int) (wrap64 (x22_1 + 1)) a0_0 y114) = some (r1, r2) := by first | (rw [hy114]; with_reducible exact H) | (have H2_ := (Option.bind_some _ _).symm.trans H; rw [hy114]; with_reducible exact H2_) | (have H2_ := (Option.bind_some _ _).symm.trans H; with_reducible exact H2_) | with_reducible exact H | (rw [hy114]; exact H) | exact H
                have Ny114 := Aside0.mk hy114
                clear hy114
                have H' := Aside0.mk H
                clear H
                have p108 : 0 ≤ (x22_1 : Int) := of_decide_eq_true (by first | (with_reducible assumption) | assumption)
                have q108 : x22_1 < (l0_1.length : Int) := of_decide_eq_true (by first | (with_reducible assumption) | assumption)
                obtain ⟨ad108, A108_1, c108_1, e108, hx108_0, hx108_1, hl108_1, hi108_1⟩ := at_T30 HR0_1.out x22_1 p108 q108
                cases e108
                replace hx108_0 := (HB.out.cell (World.block_lt_of_cell? w _ hx108_0)).trans hx108_0
                replace hx108_1 := (HB.out.cell (World.block_lt_of_cell? w _ hx108_1)).trans hx108_1
                have HR108_1 := Aside0.mk hi108_1
                have HC108_1 := Aside0.mk hl108_1
                clear hi108_1 hl108_1
                replace p108 := eq_true p108
                replace q108 := eq_true q108
                try go_wp2_with (first | ((with_reducible refine gate_dst (N := 7) rfl ?_); refine box_event ?hg (N := 7) ?hd (cs := #[.int .i64 0, .slice none 0 0]) (t := 30) ?hr ?_; (case hd => rfl); (case hg => rfl); (case hr => first | (go_simp; done) | (go_simp; rfl)); intro gb109 hg w26 hbox hb; have n0_ := Aside0.mk (Kd.R_below (Kd.R_elderB (by (with_reducible repeat (first | apply Kd.R_alloc | apply Kd.R_drewN | apply Kd.R_drew)); exact HO_108001.out) gb109 (Nat.le_of_eq hg.symm)) hb); have n1_ := Aside0.mk (blk_below (g := gb101) (o := .cells #[.int .i64 a0_0, .slice (some ad108) l0_1.length c0_1] 30 (0, 0)) (by (with_reducible repeat (first | refine blk_drewN ?_ _ | refine blk_drew ?_ | refine blk_alloc ?_ _)); exact BK101.out) hb); have n2_ := Aside0.mk (blk_below (g := gb102) (o := .cells #[.int .i64 0, .slice none 0 0] 30 (0, 0)) (by (with_reducible repeat (first | refine blk_drewN ?_ _ | refine blk_drew ?_ | refine blk_alloc ?_ _)); exact BK102.out) hb); have n3_ := Aside0.mk (blk_below (g := gb107) (o := .cells #[.int .i64 a0_0, u108001] 30 (0, 0)) (by (with_reducible repeat (first | refine blk_drewN ?_ _ | refine blk_drew ?_ | refine blk_alloc ?_ _)); exact BK107.out) hb); have n4_ := Aside0.mk (below_step (by repeat (first | (with_reducible first | exact HB.out | apply below_alloc | apply pw_below_drewN | apply below_drew1 | refine below_set ?_ GE101.out | refine below_set ?_ GE102.out | refine below_set ?_ GE107.out) | exact HB.out)) hb); have n5_ := Aside0.mk (hbox); have n6_ := Aside0.mk ((by rw [hg]; exact (below_size (by repeat (first | (with_reducible first | exact HB.out | apply below_alloc | apply pw_below_drewN | apply below_drew1 | refine below_set ?_ GE101.out | refine below_set ?_ GE102.out | refine below_set ?_ GE107.out) | exact HB.out))) : w.heap.size ≤ gb109)); have n7_ := Aside0.mk ((by rw [hg]; exact (below_size (by repeat (first | (with_reducible first | exact HB.out | apply below_alloc | apply pw_below_drewN | apply below_drew1 | refine below_set ?_ GE101.out | refine below_set ?_ GE102.out | refine below_set ?_ GE107.out) | exact HB.out))) : w.heap.size ≤ gb109)); have n8_ := Aside0.mk ((by rw [hg]; exact Nat.ne_of_lt (blk_lt (g := gb101) (o := .cells #[.int .i64 a0_0, .slice (some ad108) l0_1.length c0_1] 30 (0, 0)) (by (with_reducible repeat (first | refine blk_drewN ?_ _ | refine blk_drew ?_ | refine blk_alloc ?_ _)); exact BK101.out)) : gb101 ≠ gb109)); have n9_ := Aside0.mk ((by rw [hg]; exact Nat.ne_of_gt (blk_lt (g := gb101) (o := .cells #[.int .i64 a0_0, .slice (some ad108) l0_1.length c0_1] 30 (0, 0)) (by (with_reducible repeat (first | refine blk_drewN ?_ _ | refine blk_drew ?_ | refine blk_alloc ?_ _)); exact BK101.out)) : gb109 ≠ gb101)); have n10_ := Aside0.mk ((by rw [hg]; exact Nat.ne_of_lt (blk_lt (g := gb102) (o := .cells #[.int .i64 0, .slice none 0 0] 30 (0, 0)) (by (with_reducible repeat (first | refine blk_drewN ?_ _ | refine blk_drew ?_ | refine blk_alloc ?_ _)); exact BK102.out)) : gb102 ≠ gb109)); have n11_ := Aside0.mk ((by rw [hg]; exact Nat.ne_of_gt (blk_lt (g := gb102) (o := .cells #[.int .i64 0, .slice none 0 0] 30 (0, 0)) (by (with_reducible repeat (first | refine blk_drewN ?_ _ | refine blk_drew ?_ | refine blk_alloc ?_ _)); exact BK102.out)) : gb109 ≠ gb102)); have n12_ := Aside0.mk ((by rw [hg]; exact Nat.ne_of_lt (blk_lt (g := gb107) (o := .cells #[.int .i64 a0_0, u108001] 30 (0, 0)) (by (with_reducible repeat (first | refine blk_drewN ?_ _ | refine blk_drew ?_ | refine blk_alloc ?_ _)); exact BK107.out)) : gb107 ≠ gb109)); have n13_ := Aside0.mk ((by rw [hg]; exact Nat.ne_of_gt (blk_lt (g := gb107) (o := .cells #[.int .i64 a0_0, u108001] 30 (0, 0)) (by (with_reducible repeat (first | refine blk_drewN ?_ _ | refine blk_drew ?_ | refine blk_alloc ?_ _)); exact BK107.out)) : gb109 ≠ gb107)); clear HO_108001; clear BK101; clear BK102; clear BK107; clear HB; have HO_108001 := n0_; have BK101 := n1_; have BK102 := n2_; have BK107 := n3_; have HB := n4_; have BK109 := n5_; have GW109 := n6_; have GE109 := n7_; have NB101_109 := n8_; have NB109_101 := n9_; have NB102_109 := n10_; have NB109_102 := n11_; have NB107_109 := n12_; have NB109_107 := n13_; clear n0_ n1_ n2_ n3_ n4_ n5_ n6_ n7_ n8_ n9_ n10_ n11_ n12_ n13_; clear hb hbox hg; have hnb27 := NB109_101.out; have hnc27 := NB101_109.out; have hnb28 := NB109_102.out; have hnc28 := NB102_109.out; have hnb29 := NB109_107.out; have hnc29 := NB107_109.out; have hcz30_0 : w26.cell? ⟨gb109, 0, none⟩ = some (.int .i64 0) := (blk_cell BK109.out 0).trans rfl; have hcz30_1 : w26.cell? ⟨gb109, 1, none⟩ = some (.slice none 0 0) := (blk_cell BK109.out 1).trans rfl; have hfz30_0 := blk_frozen BK109.out 0; have hfz30_1 := blk_frozen BK109.out 1))
                have n0_ : Aside0 (Kd.R k30 30 ((w26.setCell ⟨gb109, 0, none⟩ (.int .i64 ((rd_T30 l0_1 x22_1).f0))).setCell ⟨gb109, 1, none⟩ (.slice A108_1 ((rd_T30 l0_1 x22_1).f1).length c108_1)) w.heap.size (fun k_ => k_ ≠ gb101 ∧ k_ ≠ gb102 ∧ k_ ≠ gb107 ∧ k_ ≠ gb109) u108001 x108001_1) := ⟨by (with_reducible repeat (first | apply Kd.R_alloc | apply Kd.R_drewN | apply Kd.R_drew)); exact Kd.R_mono (Kd.R_far (p := ⟨gb109, 1, none⟩) (Kd.R_far (p := ⟨gb109, 0, none⟩) (Kd.R_mono HO_108001.out (fun k_ hk => (⟨hk, hk.2⟩ : _ ∧ k_ ≠ gb109))) (fun _ hk => hk.2) (.int .i64 ((rd_T30 l0_1 x22_1).f0))) (fun _ hk => hk.2) (.slice A108_1 ((rd_T30 l0_1 x22_1).f1).length c108_1)) (fun _ hk => ⟨hk.1.1.1, ⟨hk.1.1.2.1, ⟨hk.1.1.2.2, hk.1.2⟩⟩⟩)⟩
                have n1_ : Aside0 (((w26.setCell ⟨gb109, 0, none⟩ (.int .i64 ((rd_T30 l0_1 x22_1).f0))).setCell ⟨gb109, 1, none⟩ (.slice A108_1 ((rd_T30 l0_1 x22_1).f1).length c108_1)).heap[gb101]? = some (.cells #[.int .i64 a0_0, .slice (some ad108) l0_1.length c0_1] 30 (0, 0))) := ⟨by (with_reducible repeat (first | refine blk_drewN ?_ _ | refine blk_drew ?_ | refine blk_alloc ?_ _)); refine blk_far ?_ NB101_109.out _; (with_reducible repeat (first | refine blk_drewN ?_ _ | refine blk_drew ?_ | refine blk_alloc ?_ _)); refine blk_far ?_ NB101_109.out _; (with_reducible repeat (first | refine blk_drewN ?_ _ | refine blk_drew ?_ | refine blk_alloc ?_ _)); exact BK101.out⟩
                have n2_ : Aside0 (((w26.setCell ⟨gb109, 0, none⟩ (.int .i64 ((rd_T30 l0_1 x22_1).f0))).setCell ⟨gb109, 1, none⟩ (.slice A108_1 ((rd_T30 l0_1 x22_1).f1).length c108_1)).heap[gb102]? = some (.cells #[.int .i64 0, .slice none 0 0] 30 (0, 0))) := ⟨by (with_reducible repeat (first | refine blk_drewN ?_ _ | refine blk_drew ?_ | refine blk_alloc ?_ _)); refine blk_far ?_ NB102_109.out _; (with_reducible repeat (first | refine blk_drewN ?_ _ | refine blk_drew ?_ | refine blk_alloc ?_ _)); refine blk_far ?_ NB102_109.out _; (with_reducible repeat (first | refine blk_drewN ?_ _ | refine blk_drew ?_ | refine blk_alloc ?_ _)); exact BK102.out⟩
                have n3_ : Aside0 (((w26.setCell ⟨gb109, 0, none⟩ (.int .i64 ((rd_T30 l0_1 x22_1).f0))).setCell ⟨gb109, 1, none⟩ (.slice A108_1 ((rd_T30 l0_1 x22_1).f1).length c108_1)).heap[gb107]? = some (.cells #[.int .i64 a0_0, u108001] 30 (0, 0))) := ⟨by (with_reducible repeat (first | refine blk_drewN ?_ _ | refine blk_drew ?_ | refine blk_alloc ?_ _)); refine blk_far ?_ NB107_109.out _; (with_reducible repeat (first | refine blk_drewN ?_ _ | refine blk_drew ?_ | refine blk_alloc ?_ _)); refine blk_far ?_ NB107_109.out _; (with_reducible repeat (first | refine blk_drewN ?_ _ | refine blk_drew ?_ | refine blk_alloc ?_ _)); exact BK107.out⟩
                have n4_ : Aside0 (((w26.setCell ⟨gb109, 0, none⟩ (.int .i64 ((rd_T30 l0_1 x22_1).f0))).setCell ⟨gb109, 1, none⟩ (.slice A108_1 ((rd_T30 l0_1 x22_1).f1).length c108_1)).heap[gb109]? = some (.cells #[.int .i64 ((rd_T30 l0_1 x22_1).f0), .slice A108_1 ((rd_T30 l0_1 x22_1).f1).length c108_1] 30 (0, 0))) := ⟨by (with_reducible repeat (first | refine blk_drewN ?_ _ | refine blk_drew ?_ | refine blk_alloc ?_ _)); refine blk_put (cs := #[.int .i64 ((rd_T30 l0_1 x22_1).f0), .slice none 0 0]) ?_ 1 _ rfl; (with_reducible repeat (first | refine blk_drewN ?_ _ | refine blk_drew ?_ | refine blk_alloc ?_ _)); refine blk_put (cs := #[.int .i64 0, .slice none 0 0]) ?_ 0 _ rfl; (with_reducible repeat (first | refine blk_drewN ?_ _ | refine blk_drew ?_ | refine blk_alloc ?_ _)); exact BK109.out⟩
                have n5_ : Aside0 (Below w.heap.size w ((w26.setCell ⟨gb109, 0, none⟩ (.int .i64 ((rd_T30 l0_1 x22_1).f0))).setCell ⟨gb109, 1, none⟩ (.slice A108_1 ((rd_T30 l0_1 x22_1).f1).length c108_1))) := ⟨by repeat (first | (with_reducible first | exact HB.out | apply below_alloc | apply pw_below_drewN | apply below_drew1 | refine below_set ?_ GE101.out | refine below_set ?_ GE102.out | refine below_set ?_ GE107.out | refine below_set ?_ GE109.out) | exact HB.out)⟩
                (try clear HO_108001)
                (try clear BK101)
                (try clear BK102)
                (try clear BK107)
                (try clear BK109)
                (try clear HB)
                generalize ((w26.setCell ⟨gb109, 0, none⟩ (.int .i64 ((rd_T30 l0_1 x22_1).f0))).setCell ⟨gb109, 1, none⟩ (.slice A108_1 ((rd_T30 l0_1 x22_1).f1).length c108_1)) = w31 at n0_ n1_ n2_ n3_ n4_ n5_ ⊢
                have HO_108001 := n0_
                have BK101 := n1_
                have BK102 := n2_
                have BK107 := n3_
                have BK109 := n4_
                have HB := n5_
                clear n0_ n1_ n2_ n3_ n4_ n5_
                have n0_ := Aside0.mk (Kd.R_drew HO_108001.out)
                have n1_ := Aside0.mk (blk_drew BK101.out)
                have n2_ := Aside0.mk (blk_drew BK102.out)
                have n3_ := Aside0.mk (blk_drew BK107.out)
                have n4_ := Aside0.mk (blk_drew BK109.out)
                have n5_ := Aside0.mk (below_drew1 HB.out)
                clear HO_108001
                clear BK101
                clear BK102
                clear BK107
                clear BK109
                clear HB
                have HO_108001 := n0_
                have BK101 := n1_
                have BK102 := n2_
                have BK107 := n3_
                have BK109 := n4_
                have HB := n5_
                clear n0_ n1_ n2_ n3_ n4_ n5_
                refine start_ (n := 9) (S := fun w' => w'.cell? ⟨gb107, 0, none⟩ = some (.int .i64 a0_0) ∧ w'.cell? ⟨gb107, 1, none⟩ = some (u108001) ∧ w'.cell? ⟨gb109, 0, none⟩ = some (.int .i64 ((rd_T30 l0_1 x22_1).f0)) ∧ w'.cell? ⟨gb109, 1, none⟩ = some (.slice A108_1 ((rd_T30 l0_1 x22_1).f1).length c108_1)) (ds := [8]) #[false, false, false, false, false, false, false, false, false] (by kernel_rfl) rfl rfl ⟨(blk_cell BK107.out 0).trans rfl, (blk_cell BK107.out 1).trans rfl, (blk_cell BK109.out 0).trans rfl, (blk_cell BK109.out 1).trans rfl⟩ (fun hHeld => ?_); refine with_tabW subst_mappedR.tab7 subst_mappedR.bits7 (fun HT_ HW_ => ?_)
                generalize w31.drew = w32 at HO_108001 BK101 BK102 BK107 BK109 HB hHeld ⊢
                refine pure_ (i := 0) (N := some 26) (v := ?_) (a' := ?_) #[true, false, false, false, false, false, false, false, false] rfl rfl (any_of HT_.out (by kernel_rfl)) (fun _ _ _ h => h) (Or.inl ⟨by rfl, ?_⟩) ?_ ?_
                rotate_left
                · intro w'
                  go_simp
                  with_reducible rfl
                rotate_left
                · simp only [Act.put, List.setIfInBounds_toArray, List.set_cons_zero, List.set_cons_succ, i64_w, i32_w]
                  rfl
                refine pure_ (i := 3) (N := some 29) (v := ?_) (a' := ?_) #[true, false, false, true, false, false, false, false, false] rfl rfl (any_of HT_.out (by kernel_rfl)) (fun _ _ _ h => h) (Or.inl ⟨by rfl, ?_⟩) ?_ ?_
                rotate_left
                · intro w'
                  go_simp
                  with_reducible rfl
                rotate_left
                · simp only [Act.put, List.setIfInBounds_toArray, List.set_cons_zero, List.set_cons_succ, i64_w, i32_w]
                  rfl
                refine take_ (i := 1) (N := some 27) (v := ?_) (a' := ?_) #[true, true, false, true, false, false, false, false, false] rfl rfl (take_ofW HT_.out HW_.out (by kernel_rfl)) (fun _ _ _ h => h) (Or.inl ⟨by rfl, ?_⟩) hHeld ?_ ?_
                rotate_left
                · rintro w' ⟨s0, s1, s2, s3⟩
                  go_simp
                  with_reducible rfl
                rotate_left
                · simp only [Act.put, List.setIfInBounds_toArray, List.set_cons_zero, List.set_cons_succ, i64_w, i32_w]
                  rfl
                refine take_ (i := 2) (N := some 28) (v := ?_) (a' := ?_) #[true, true, true, true, false, false, false, false, false] rfl rfl (take_ofW HT_.out HW_.out (by kernel_rfl)) (fun _ _ _ h => h) (Or.inl ⟨by rfl, ?_⟩) hHeld ?_ ?_
                rotate_left
                · rintro w' ⟨s0, s1, s2, s3⟩
                  go_simp
                  with_reducible rfl
                rotate_left
                · simp only [Act.put, List.setIfInBounds_toArray, List.set_cons_zero, List.set_cons_succ, i64_w, i32_w]
                  rfl
                refine one_ (i := 4) (N := some 30) #[true, true, true, true, true, false, false, false, false] rfl rfl (one_of HT_.out (by kernel_rfl)) (by decide) (fun K hK => ?_)
                refine goes_ Try.func81 (by kernel_rfl) rfl #[.agg #[.int .i64 ((rd_T30 l0_1 x22_1).f0), .slice A108_1 ((rd_T30 l0_1 x22_1).f1).length c108_1], (.func (.func 82) #[] #[.pointer (some ⟨gq, 0, none⟩)])] (by rfl) rfl rfl (by (try simp only [List.map_toArray, List.map_cons, List.map_nil]); first | done | rfl | (simp only [List.length_drop, List.length_take]; rfl)) ?_
                with_reducible refine (ih k1 (by have := HK1.out; omega) ((rd_T30 l0_1 x22_1).f0) _ _ ((rd_T30 l0_1 x22_1).f1) a1 t110 t111 _ ?side1 ?side2 (HQ.out _ (by repeat (first | (with_reducible first | exact HB.out | apply below_alloc | apply pw_below_drewN | apply below_drew1) | exact HB.out))) A24.out).mono ?_
                (case side1 => repeat (first | exact (Kd.C_below HR108_1.out HB.out) | (with_reducible refine Kd.C_alloc ?_ _) | (with_reducible refine Kd.C_drewN ?_ _) | (with_reducible refine Kd.C_drew ?_)))
                (case side2 => exact HC108_1.out)
                rintro e w33 ⟨v112, rfl, ho0, hb⟩
                refine ⟨_, rfl, ?_⟩
                have n0_ := Aside0.mk (Kd.R_elder' (by (with_reducible repeat (first | apply Kd.R_alloc | apply Kd.R_drewN | apply Kd.R_drew)); exact HO_108001.out) (Kd.R_base ho0) hb)
                have n1_ := Aside0.mk (Kd.R_lower (Kd.R_newB (Kd.R_newB (Kd.R_newB (Kd.R_newB (Kd.R_new' ho0 (Kd.R_lt (by (with_reducible repeat (first | apply Kd.R_alloc | apply Kd.R_drewN | apply Kd.R_drew)); exact HO_108001.out))) (g := gb101) (o := .cells #[.int .i64 a0_0, .slice (some ad108) l0_1.length c0_1] 30 (0, 0)) (by (with_reducible repeat (first | refine blk_drewN ?_ _ | refine blk_drew ?_ | refine blk_alloc ?_ _)); exact BK101.out)) (g := gb102) (o := .cells #[.int .i64 0, .slice none 0 0] 30 (0, 0)) (by (with_reducible repeat (first | refine blk_drewN ?_ _ | refine blk_drew ?_ | refine blk_alloc ?_ _)); exact BK102.out)) (g := gb107) (o := .cells #[.int .i64 a0_0, u108001] 30 (0, 0)) (by (with_reducible repeat (first | refine blk_drewN ?_ _ | refine blk_drew ?_ | refine blk_alloc ?_ _)); exact BK107.out)) (g := gb109) (o := .cells #[.int .i64 ((rd_T30 l0_1 x22_1).f0), .slice A108_1 ((rd_T30 l0_1 x22_1).f1).length c108_1] 30 (0, 0)) (by (with_reducible repeat (first | refine blk_drewN ?_ _ | refine blk_drew ?_ | refine blk_alloc ?_ _)); exact BK109.out)) (below_size (by repeat (first | (with_reducible first | exact HB.out | apply below_alloc | apply pw_below_drewN | apply below_drew1 | refine below_set ?_ GE101.out | refine below_set ?_ GE102.out | refine below_set ?_ GE107.out | refine below_set ?_ GE109.out) | exact HB.out))))
                have n2_ := Aside0.mk (blk_below (g := gb101) (o := .cells #[.int .i64 a0_0, .slice (some ad108) l0_1.length c0_1] 30 (0, 0)) (by (with_reducible repeat (first | refine blk_drewN ?_ _ | refine blk_drew ?_ | refine blk_alloc ?_ _)); exact BK101.out) hb)
                have n3_ := Aside0.mk (blk_below (g := gb102) (o := .cells #[.int .i64 0, .slice none 0 0] 30 (0, 0)) (by (with_reducible repeat (first | refine blk_drewN ?_ _ | refine blk_drew ?_ | refine blk_alloc ?_ _)); exact BK102.out) hb)
                have n4_ := Aside0.mk (blk_below (g := gb107) (o := .cells #[.int .i64 a0_0, u108001] 30 (0, 0)) (by (with_reducible repeat (first | refine blk_drewN ?_ _ | refine blk_drew ?_ | refine blk_alloc ?_ _)); exact BK107.out) hb)
                have n5_ := Aside0.mk (blk_below (g := gb109) (o := .cells #[.int .i64 ((rd_T30 l0_1 x22_1).f0), .slice A108_1 ((rd_T30 l0_1 x22_1).f1).length c108_1] 30 (0, 0)) (by (with_reducible repeat (first | refine blk_drewN ?_ _ | refine blk_drew ?_ | refine blk_alloc ?_ _)); exact BK109.out) hb)
                have n6_ := Aside0.mk (below_step (by repeat (first | (with_reducible first | exact HB.out | apply below_alloc | apply pw_below_drewN | apply below_drew1 | refine below_set ?_ GE101.out | refine below_set ?_ GE102.out | refine below_set ?_ GE107.out | refine below_set ?_ GE109.out) | exact HB.out)) hb)
                clear HO_108001
                clear BK101
                clear BK102
                clear BK107
                clear BK109
                clear HB
                have HO_108001 := n0_
                have HO113 := n1_
                have BK101 := n2_
                have BK102 := n3_
                have BK107 := n4_
                have BK109 := n5_
                have HB := n6_
                clear n0_ n1_ n2_ n3_ n4_ n5_ n6_
                (try clear hb)
                (try clear hb2)
                (try clear hk)
                (try clear hi)
                (try clear ho0)
                obtain ⟨Ao35, co35, eo35⟩ := Kd.R_slice HO113.out
                (first | subst eo35 | (injection eo35 with f1_ f2_ f3_; have f4_ := f1_.symm; have f5_ := f3_.symm; clear f1_ f2_ f3_; subst f4_; subst f5_))
                refine hK.out _ _ ⟨(blk_cell BK107.out 0).trans rfl, (blk_cell BK107.out 1).trans rfl, (blk_cell BK109.out 0).trans rfl, (blk_cell BK109.out 1).trans rfl⟩ (fun hHeld => ?_)
                clear hK K
                refine norm_ (a' := ?_) ?_ ?_
                rotate_left
                · show Act.put _ (some 30) _ = _
                  simp only [Act.put, List.setIfInBounds_toArray, List.set_cons_zero, List.set_cons_succ, i64_w, i32_w]
                  rfl
                refine one_ (i := 5) (N := some 31) #[true, true, true, true, true, true, false, false, false] rfl rfl (one_of HT_.out (by kernel_rfl)) (by decide) (fun K hK => ?_)
                refine value_ (w1 := ?_) (v := ?_) (by rfl) rfl ?_ ?_
                rotate_left 2
                · go_simp
                  constructor
                  · rfl
                  · rfl
                refine hK.out _ _ ⟨(blk_cell (blk_alloc BK107.out _) 0).trans rfl, (blk_cell (blk_alloc BK107.out _) 1).trans rfl, (blk_cell (blk_alloc BK109.out _) 0).trans rfl, (blk_cell (blk_alloc BK109.out _) 1).trans rfl⟩ (fun hHeld => ?_)
                clear hK K
                refine norm_ (a' := ?_) ?_ ?_
                rotate_left
                · show Act.put _ (some 31) _ = _
                  simp only [Act.put, List.setIfInBounds_toArray, List.set_cons_zero, List.set_cons_succ, i64_w, i32_w]
                  rfl
                refine one_ (i := 6) (N := some 32) #[true, true, true, true, true, true, true, false, false] rfl rfl (one_of HT_.out (by kernel_rfl)) (by decide) (fun K hK => ?_)
                refine Kd.R_append_step k30 (w0 := w) w.heap.size (by rfl) (.tmp 27) (.tmp 31) 28 30 (.agg #[(.int .i64 0), (.slice none 0 0)]) 32 rfl Try.underlying28 info30 rfl (by decide) (by omega) u108001 x108001_1 (⟨t110, t111⟩ : S30) [.int .i64 t110, .slice Ao35 t111.length co35] (fun k_ => k_ ≠ gb101 ∧ k_ ≠ gb102 ∧ k_ ≠ gb107 ∧ k_ ≠ gb109) (fun k_ => ((fun k_ => k_ ≠ gb101 ∧ k_ ≠ gb102 ∧ k_ ≠ gb107 ∧ k_ ≠ gb109)) k_ ∧ some k_ ≠ (u108001 : Value).ownBlock) rfl rfl ?aP (fun _ hk => hk) ?aF ?aO ?aB ?aS ?aL ?_
                (case aP => exact k30_mkM _ _ _ (⟨t110, t111⟩ : S30) (Kd.R_mono (HO113.out) (fun k_ hk => ⟨⟨hk.1.1.1.2, ⟨hk.1.1.2, ⟨hk.1.2, hk.2⟩⟩⟩, hk.1.1.1.1.2⟩)))
                (case aB => exact (by repeat (first | (with_reducible first | exact HB.out | apply below_alloc | apply pw_below_drewN | apply below_drew1 | refine below_set ?_ GE101.out | refine below_set ?_ GE102.out | refine below_set ?_ GE107.out | refine below_set ?_ GE109.out) | exact HB.out)))
                (case aF => exact (fun k_ hk => ⟨Kd.freshB (g := gb101) (o := .cells #[.int .i64 a0_0, .slice (some ad108) l0_1.length c0_1] 30 (0, 0)) (by (with_reducible repeat (first | refine blk_drewN ?_ _ | refine blk_drew ?_ | refine blk_alloc ?_ _)); exact BK101.out) k_ hk, Kd.freshB (g := gb102) (o := .cells #[.int .i64 0, .slice none 0 0] 30 (0, 0)) (by (with_reducible repeat (first | refine blk_drewN ?_ _ | refine blk_drew ?_ | refine blk_alloc ?_ _)); exact BK102.out) k_ hk, Kd.freshB (g := gb107) (o := .cells #[.int .i64 a0_0, u108001] 30 (0, 0)) (by (with_reducible repeat (first | refine blk_drewN ?_ _ | refine blk_drew ?_ | refine blk_alloc ?_ _)); exact BK107.out) k_ hk, Kd.freshB (g := gb109) (o := .cells #[.int .i64 ((rd_T30 l0_1 x22_1).f0), .slice A108_1 ((rd_T30 l0_1 x22_1).f1).length c108_1] 30 (0, 0)) (by (with_reducible repeat (first | refine blk_drewN ?_ _ | refine blk_drew ?_ | refine blk_alloc ?_ _)); exact BK109.out) k_ hk⟩))
                (case aO => exact (by (with_reducible repeat (first | apply Kd.R_alloc | apply Kd.R_drewN | apply Kd.R_drew)); exact Kd.R_mono HO_108001.out (fun _ hk => ⟨hk.1.1, ⟨hk.1.2.1, ⟨hk.1.2.2.1, hk.1.2.2.2⟩⟩⟩)))
                (case aS => exact (below_size (by repeat (first | (with_reducible first | exact HB.out | apply below_alloc | apply pw_below_drewN | apply below_drew1 | refine below_set ?_ GE101.out | refine below_set ?_ GE102.out | refine below_set ?_ GE107.out | refine below_set ?_ GE109.out) | exact HB.out))))
                (case aL => have := LMc25.out; omega)
                intro v115 w34 ho hb hg hat
                rw [← Ny114.out] at ho
                have n0_ := Aside0.mk (blk_grown (g := gb101) (o := .cells #[.int .i64 a0_0, .slice (some ad108) l0_1.length c0_1] 30 (0, 0)) (by (with_reducible repeat (first | refine blk_drewN ?_ _ | refine blk_drew ?_ | refine blk_alloc ?_ _)); exact BK101.out) hg (Kd.R_away HO_108001.out (fun _ hk => hk.1.1)))
                have n1_ := Aside0.mk (blk_grown (g := gb102) (o := .cells #[.int .i64 0, .slice none 0 0] 30 (0, 0)) (by (with_reducible repeat (first | refine blk_drewN ?_ _ | refine blk_drew ?_ | refine blk_alloc ?_ _)); exact BK102.out) hg (Kd.R_away HO_108001.out (fun _ hk => hk.1.2.1)))
                have n2_ := Aside0.mk (blk_grown (g := gb107) (o := .cells #[.int .i64 a0_0, u108001] 30 (0, 0)) (by (with_reducible repeat (first | refine blk_drewN ?_ _ | refine blk_drew ?_ | refine blk_alloc ?_ _)); exact BK107.out) hg (Kd.R_away HO_108001.out (fun _ hk => hk.1.2.2.1)))
                have n3_ := Aside0.mk (blk_grown (g := gb109) (o := .cells #[.int .i64 ((rd_T30 l0_1 x22_1).f0), .slice A108_1 ((rd_T30 l0_1 x22_1).f1).length c108_1] 30 (0, 0)) (by (with_reducible repeat (first | refine blk_drewN ?_ _ | refine blk_drew ?_ | refine blk_alloc ?_ _)); exact BK109.out) hg (Kd.R_away HO_108001.out (fun _ hk => hk.1.2.2.2)))
                have n4_ := Aside0.mk (hb)
                have n5_ := Aside0.mk (ho)
                clear BK101
                clear BK102
                clear BK107
                clear BK109
                clear HB
                clear HO_108001
                clear HO113
                have BK101 := n0_
                have BK102 := n1_
                have BK107 := n2_
                have BK109 := n3_
                have HB := n4_
                have HO116 := n5_
                clear n0_ n1_ n2_ n3_ n4_ n5_
                clear ho hb hg hat
                obtain ⟨Ao36, co36, eo36⟩ := Kd.R_slice HO116.out
                (first | subst eo36 | (injection eo36 with f1_ f2_ f3_; have f4_ := f1_.symm; have f5_ := f3_.symm; clear f1_ f2_ f3_; subst f4_; subst f5_))
                refine hK.out _ _ ⟨(blk_cell BK107.out 0).trans rfl, (blk_cell BK107.out 1).trans rfl, (blk_cell BK109.out 0).trans rfl, (blk_cell BK109.out 1).trans rfl⟩ (fun hHeld => ?_)
                clear hK K
                refine norm_ (a' := ?_) ?_ ?_
                rotate_left
                · show Act.put _ (some 32) _ = _
                  simp only [Act.put, List.setIfInBounds_toArray, List.set_cons_zero, List.set_cons_succ, i64_w, i32_w]
                  rfl
                refine pure_ (i := 7) (N := some 33) (v := ?_) (a' := ?_) #[true, true, true, true, true, true, true, true, false] rfl rfl (any_of HT_.out (by kernel_rfl)) (fun _ _ _ h => h) (Or.inl ⟨by rfl, ?_⟩) ?_ ?_
                rotate_left
                · intro w'
                  go_simp
                  with_reducible rfl
                rotate_left
                · simp only [Act.put, List.setIfInBounds_toArray, List.set_cons_zero, List.set_cons_succ, i64_w, i32_w]
                  rfl
                refine last_ (i := 8) (N := none) #[true, true, true, true, true, true, true, true, true] rfl rfl (one_of HT_.out (by kernel_rfl)) (by decide) (fun K hK => ?_)
                have hs37 : w34.cell? ⟨gb107, 1, none⟩ = some (u108001) := (blk_cell BK107.out 1).trans rfl
                have hfs37 := blk_frozen BK107.out 1
                have hns37_0 := NB101_107.out
                have hns37_1 := NB102_107.out
                have hns37_3 := NB109_107.out
                have hms37_0 := NB107_101.out
                have hms37_1 := NB107_102.out
                have hms37_3 := NB107_109.out
                refine skip_ (w1 := ?_) (by rfl) rfl ?_ ?_
                rotate_left
                · go_simp
                  rfl
                refine hK.out _ _ ?_
                clear hK K
                refine done_ (done_of HT_.out (by kernel_rfl)) ?_
                try go_wp2
                go_roundg k1
                case measure => have := HK1.out; omega
                case rel => exact ⟨(wrap64 (x22_1 + 1)), (y114), (.slice Ao36 y114.length co36), (by first | rfl | (simp; done) | (simp [*]; done)), H', ⟨by have := HK1.out; omega⟩, ⟨by (with_reducible repeat (first | apply Kd.R_alloc | apply Kd.R_drewN | apply Kd.R_drew)); exact Kd.R_mono (Kd.R_far (p := ⟨gb107, 1, none⟩) (Kd.R_mono HO116.out (fun k_ hk => (⟨hk, hk.2.2.1⟩ : _ ∧ k_ ≠ gb107))) (fun _ hk => hk.2) (.slice Ao36 y114.length co36)) (fun _ hk => ⟨hk.1.1, ⟨hk.1.2.1, hk.1.2.2.1⟩⟩)⟩, ⟨by (with_reducible repeat (first | refine blk_drewN ?_ _ | refine blk_drew ?_ | refine blk_alloc ?_ _)); refine blk_far ?_ NB101_107.out _; (with_reducible repeat (first | refine blk_drewN ?_ _ | refine blk_drew ?_ | refine blk_alloc ?_ _)); exact BK101.out⟩, ⟨by (with_reducible repeat (first | refine blk_drewN ?_ _ | refine blk_drew ?_ | refine blk_alloc ?_ _)); refine blk_far ?_ NB102_107.out _; (with_reducible repeat (first | refine blk_drewN ?_ _ | refine blk_drew ?_ | refine blk_alloc ?_ _)); exact BK102.out⟩, ⟨by (with_reducible repeat (first | refine blk_drewN ?_ _ | refine blk_drew ?_ | refine blk_alloc ?_ _)); refine blk_put (cs := #[.int .i64 a0_0, u108001]) ?_ 1 _ rfl; (with_reducible repeat (first | refine blk_drewN ?_ _ | refine blk_drew ?_ | refine blk_alloc ?_ _)); exact BK107.out⟩, ⟨by repeat (first | (with_reducible first | exact HB.out | apply below_alloc | apply pw_below_drewN | apply below_drew1 | refine below_set ?_ GE101.out | refine below_set ?_ GE102.out | refine below_set ?_ GE107.out | refine below_set ?_ GE109.out) | exact HB.out)⟩⟩
              · rw [if_neg c25] at H
                exact absurd H (by simp)
            · rw [if_neg c23] at H
              exact absurd H (by simp)
          · rw [if_neg c22] at H
            exact absurd H (by simp)
        · rw [if_neg c21] at H
          have c21b0 : decide (x22_1 < (l0_1.length : Int)) = false := decide_eq_false c21
          clear c21
          simp only [Option.some.injEq, Prod.mk.injEq] at H
          obtain ⟨rfl, rfl⟩ := H
          have hnb38 := NB107_101.out
          have hnc38 := NB101_107.out
          have hnb39 := NB107_102.out
          have hnc39 := NB102_107.out
          have hcz40_0 : wr.cell? ⟨gb107, 0, none⟩ = some (.int .i64 a0_0) := (blk_cell BK107.out 0).trans rfl
          have hcz40_1 : wr.cell? ⟨gb107, 1, none⟩ = some (u108001) := (blk_cell BK107.out 1).trans rfl
          have hfz40_0 := blk_frozen BK107.out 0
          have hfz40_1 := blk_frozen BK107.out 1
          have hnb41 := NB102_101.out
          have hnc41 := NB101_102.out
          have hcz42_0 : wr.cell? ⟨gb102, 0, none⟩ = some (.int .i64 0) := (blk_cell BK102.out 0).trans rfl
          have hcz42_1 : wr.cell? ⟨gb102, 1, none⟩ = some (.slice none 0 0) := (blk_cell BK102.out 1).trans rfl
          have hfz42_0 := blk_frozen BK102.out 0
          have hfz42_1 := blk_frozen BK102.out 1
          obtain ⟨Ao43, co43, eo43⟩ := Kd.R_slice HO_108001.out
          subst eo43
          go_wp2
          refine bodyPost_ret (results_cell_row rfl _ _ gb102 30 #[.int .i64 a0_0, .slice Ao43 x108001_1.length co43] (0, 0) _ rfl (by (with_reducible repeat (first | refine blk_drewN ?_ _ | refine blk_drew ?_ | refine blk_alloc ?_ _)); refine blk_put (cs := #[.int .i64 a0_0, .slice none 0 0]) ?_ 1 _ rfl; (with_reducible repeat (first | refine blk_drewN ?_ _ | refine blk_drew ?_ | refine blk_alloc ?_ _)); refine blk_put (cs := #[.int .i64 0, .slice none 0 0]) ?_ 0 _ rfl; (with_reducible repeat (first | refine blk_drewN ?_ _ | refine blk_drew ?_ | refine blk_alloc ?_ _)); exact BK102.out) Try.underlying30 rfl (by kernel_rfl)) rfl ?_
          exact ⟨_, by first | rfl | (simp [errW_none, errW_some] <;> rfl) | (simp [*, errW_none, errW_some] <;> rfl), by (with_reducible repeat (first | apply Kd.R_alloc | apply Kd.R_drewN | apply Kd.R_drew)); exact Kd.R_mono (Kd.R_far (p := ⟨gb102, 1, none⟩) (Kd.R_far (p := ⟨gb102, 0, none⟩) (Kd.R_mono HO_108001.out (fun k_ hk => (⟨hk, hk.2.1⟩ : _ ∧ k_ ≠ gb102))) (fun _ hk => hk.2) (.int .i64 a0_0)) (fun _ hk => hk.2) (.slice Ao43 x108001_1.length co43)) (fun _ hk => trivial), by repeat (first | (with_reducible first | exact HB.out | apply below_alloc | apply pw_below_drewN | apply below_drew1 | refine below_set ?_ GE101.out | refine below_set ?_ GE102.out | refine below_set ?_ GE107.out) | exact HB.out)⟩
end Go.Proofs.Ytpfddihcikiofaa.P
end

section
namespace Go.Proofs.Ytpfddihcikiofaa.P
open Go.RowKit Go.Proofs.YtpfddihcikiofaaW.PrintWords Go.Proofs.YtpfddihcikiofaaW.PrintLast Go.Proofs.YtpfddihcikiofaaW.PrintMore
set_option linter.unusedVariables false
set_option linter.unusedSimpArgs false
structure FP where
  p : (Nat → Prop) → Value → World → Prop
  step : ∀ {ok ok' : Nat → Prop} {u : Value} {w w' : World}, p ok u w → (∀ k, ok k → k < w.heap.size → w'.heap[k]? = w.heap[k]?) → (∀ k, ok k → k < w.heap.size → ok' k) → p ok' u w'
def okF (ia : Nat) (v : Nat → Value) (d : Nat → Bool) (k : Nat) : Prop := d ia = true → v ia ≠ .pointer (some ⟨k, 0, none⟩)
def RetJ (N : Nat) (t : TypeId) (cs : List (Nat × FP)) (ia is ix : Nat) : BoxI := fun v d w =>
  N ≤ w.heap.size ∧ (∀ q ∈ cs, d q.1 = true → q.2.p (okF ia v d) (v q.1) w) ∧
  (d ia = true → ∃ g, v ia = .pointer (some ⟨g, 0, none⟩) ∧ N ≤ g ∧ g < w.heap.size ∧ w.heap[g]? = some (.cells (if d is = true then cellsOf (v ix) else #[.int .i64 0, .slice none 0 0]) t (0, 0))) ∧
  (d is = true → d ia = true ∧ d ix = true)
section
variable {N : Nat} {t : TypeId} {cs : List (Nat × FP)} {ia is ix : Nat}
theorem okF.other {v : Nat → Value} {d : Nat → Bool} {i : Nat} {u : Value} (hi : ia ≠ i) (k : Nat) : okF ia (upd v i u) (upd d i true) k ↔ okF ia v d k := by
  unfold okF
  rw [upd_other _ _ hi, upd_other _ _ hi]
theorem okF.ne {v : Nat → Value} {d : Nat → Bool} {k g : Nat} (h : okF ia v d k) (hd : d ia = true) (hv : v ia = .pointer (some ⟨g, 0, none⟩)) : k ≠ g := fun e => h hd (by rw [hv, e])
theorem RetJ.val {v : Nat → Value} {d : Nat → Bool} {w w2 : World} {i : Nat} {u : Value} (h : RetJ N t cs ia is ix v d w) (hd : d i = false) (hia : ia ≠ i) (his : is ≠ i) (hb : Below w.heap.size w w2)
    (hu : ∀ q ∈ cs, q.1 = i → q.2.p (fun k => okF ia v d k ∨ w.heap.size ≤ k) u w2) : RetJ N t cs ia is ix (upd v i u) (upd d i true) w2 := by
  obtain ⟨hN, h1, h2, h3⟩ := h
  have hbox : ∀ k, okF ia v d k ∨ w.heap.size ≤ k → okF ia (upd v i u) (upd d i true) k := by
    intro k hk
    rw [okF.other hia]
    rcases hk with hk | hk
    · exact hk
    · refine fun hda e => ?_
      obtain ⟨g, e1, _, e3, _⟩ := h2 hda
      rw [e1] at e
      injection e with e
      injection e with e
      injection e with e
      omega
  refine ⟨Nat.le_trans hN hb.size, fun q hq hdq => ?_, fun hda => ?_, fun hds => ?_⟩
  · by_cases hqi : q.1 = i
    · rw [hqi, upd_same]
      exact q.2.step (hu q hq hqi) (fun _ _ _ => rfl) (fun k hk _ => hbox k hk)
    · rw [upd_other _ _ hqi] at hdq ⊢
      exact q.2.step (h1 q hq hdq) (fun k _ hlt => hb.block k hlt) (fun k hk _ => hbox k (.inl hk))
  · rw [upd_other _ _ hia] at hda ⊢
    rw [upd_other _ _ his]
    obtain ⟨g, e1, e2, e3, e4⟩ := h2 hda
    refine ⟨g, e1, e2, Nat.lt_of_lt_of_le e3 hb.size, ?_⟩
    have e5 := blk_below e4 hb
    by_cases hx : d is = true
    · have hxx := (h3 hx).2
      have hxi : ix ≠ i := fun e => by rw [e, hd] at hxx; cases hxx
      rw [upd_other _ _ hxi]
      exact e5
    · rw [if_neg hx] at e5 ⊢
      exact e5
  · rw [upd_other _ _ his] at hds
    rw [upd_other _ _ hia]
    have := h3 hds
    refine ⟨this.1, ?_⟩
    by_cases hxi : ix = i
    · rw [hxi, upd_same]
    · rw [upd_other _ _ hxi]; exact this.2
theorem RetJ.alloc {v : Nat → Value} {d : Nat → Bool} {w : World} (h : RetJ N t cs ia is ix v d w) (hd : d ia = false) (his : is ≠ ia) (hix : ix ≠ ia) (hq : ∀ q ∈ cs, q.1 ≠ ia) :
    RetJ N t cs ia is ix (upd v ia (.pointer (some ⟨w.heap.size, 0, none⟩))) (upd d ia true) (w.alloc (.cells #[.int .i64 0, .slice none 0 0] t (0, 0))) := by
  obtain ⟨hN, h1, h2, h3⟩ := h
  have hn : ¬ d is = true := fun hc => by have := (h3 hc).1; rw [hd] at this; cases this
  refine ⟨by rw [World.size_alloc]; omega, fun q hqc hdq => ?_, fun _ => ?_, fun hds => ?_⟩
  · rw [upd_other _ _ (hq q hqc)] at hdq ⊢
    refine q.2.step (h1 q hqc hdq) (fun k _ hlt => (below_alloc (Below.refl _ _) _ : Below w.heap.size w _).block k hlt) (fun k hk hlt => fun _ e => ?_)
    rw [upd_same] at e
    injection e with e
    injection e with e
    injection e with e
    omega
  · rw [upd_same, upd_other _ _ his, if_neg hn]
    exact ⟨_, rfl, hN, by rw [World.size_alloc]; omega, heap_alloc_new _ _⟩
  · rw [upd_other _ _ his] at hds
    exact absurd hds hn
theorem RetJ.store {v : Nat → Value} {d : Nat → Bool} {w w' : World} {u : Value} {g : Nat} (h : RetJ N t cs ia is ix v d w) (hd : d is = false) (hia : ia ≠ is) (hix : ix ≠ is) (hq : ∀ q ∈ cs, q.1 ≠ is) (hda : d ia = true) (hdx : d ix = true)
    (hva : v ia = .pointer (some ⟨g, 0, none⟩)) (hw : w'.heap[g]? = some (.cells (cellsOf (v ix)) t (0, 0))) (hother : ∀ k, k ≠ g → w'.heap[k]? = w.heap[k]?) (hsz : w'.heap.size = w.heap.size) : RetJ N t cs ia is ix (upd v is u) (upd d is true) w' := by
  obtain ⟨hN, h1, h2, h3⟩ := h
  refine ⟨by omega, fun q hqc hdq => ?_, fun _ => ?_, fun _ => ?_⟩
  · rw [upd_other _ _ (hq q hqc)] at hdq ⊢
    exact q.2.step (h1 q hqc hdq) (fun k hk _ => hother k (okF.ne hk hda hva)) (fun k hk _ => (okF.other hia k).2 hk)
  · rw [upd_other _ _ hia, upd_same, if_pos rfl, upd_other _ _ hix]
    obtain ⟨g', e1, e2, e3, _⟩ := h2 hda
    rw [e1] at hva
    injection hva with hva
    injection hva with hva
    injection hva with hva
    subst hva
    exact ⟨g', e1, e2, by omega, hw⟩
  · rw [upd_other _ _ hia, upd_other _ _ hix]
    exact ⟨hda, hdx⟩
end
end Go.Proofs.Ytpfddihcikiofaa.P
end

section
namespace Go.Proofs.Ytpfddihcikiofaa.P
open Go.RowKit Go.Proofs.YtpfddihcikiofaaW.PrintWords Go.Proofs.YtpfddihcikiofaaW.PrintLast Go.Proofs.YtpfddihcikiofaaW.PrintMore
set_option linter.unusedVariables false
set_option linter.unusedSimpArgs false
def ground (t : S30) : Prop := ∀ x ∈ nodes t, 0 ≤ x.f0
end Go.Proofs.Ytpfddihcikiofaa.P
end

section
namespace Go.Proofs.Ytpfddihcikiofaa.P
open Go.RowKit Go.Proofs.YtpfddihcikiofaaW.PrintWords Go.Proofs.YtpfddihcikiofaaW.PrintLast Go.Proofs.YtpfddihcikiofaaW.PrintMore
set_option linter.unusedVariables false
set_option linter.unusedSimpArgs false
theorem eqv_symm {a b : S30} (h : cmpT a b = 0) : cmpT b a = 0 := by have := cmp_anti a b; omega
theorem eqv_trans {a b c : S30} (h : cmpT a b = 0) (h2 : cmpT b c = 0) : cmpT a c = 0 := by
  have := cmp_trans a b c (by omega) (by omega)
  exact this.2.2 ⟨h, h2⟩
theorem cmp_zero' {f g : Int} {l m : List S30} (hfg : f = g) (h : ¬ f < 0 → l.length = m.length ∧ cmpTs l m = 0) : cmpT ⟨f, l⟩ ⟨g, m⟩ = 0 := by
  subst hfg
  by_cases hf : f < 0
  · simp [cmpT, hf, cmpI_self]
  · obtain ⟨h1, h2⟩ := h hf
    simp [cmpT, hf, cmpI_self, h1, orI, h2]
theorem cmpTs_zero_iff : ∀ l m : List S30, l.length = m.length → (cmpTs l m = 0 ↔ ∀ (j : Nat) (x y : S30), l[j]? = some x → m[j]? = some y → cmpT x y = 0)
  | [], [], _ => by simp [cmpTs]
  | x :: l, y :: m, h => by
    rw [cmpTs]
    have ih := cmpTs_zero_iff l m (by simpa using h)
    by_cases h0 : cmpT x y = 0
    · rw [if_pos h0, ih]
      constructor
      · intro h1 j a b ha hb
        cases j with
        | zero => simp at ha hb; subst ha hb; exact h0
        | succ j => simp at ha hb; exact h1 j a b ha hb
      · intro h1 j a b ha hb
        exact h1 (j + 1) a b (by simpa using ha) (by simpa using hb)
    · rw [if_neg h0]
      constructor
      · intro h1; exact absurd h1 h0
      · intro h1; exact absurd (h1 0 x y rfl rfl) h0
theorem eqv_nums : ∀ a b : S30, cmpT a b = 0 → (nodes a).map (·.f0) = (nodes b).map (·.f0) := by
  refine S30.ind ?_
  intro f l ih b h
  obtain ⟨g, m⟩ := b
  obtain ⟨rfl, h2⟩ := cmp_zero h
  by_cases hf : f < 0
  · simp [nodes, hf]
  · obtain ⟨h3, h4⟩ := h2 hf
    have key : ∀ (l m : List S30), (∀ x ∈ l, ∀ y, cmpT x y = 0 → (nodes x).map (·.f0) = (nodes y).map (·.f0)) → l.length = m.length → cmpTs l m = 0 → (nodess l).map (·.f0) = (nodess m).map (·.f0) := by
      intro l
      induction l with
      | nil => intro m _ hl _; cases m with
        | nil => rfl
        | cons => simp at hl
      | cons x l ihl =>
        intro m h hl hc
        cases m with
        | nil => simp at hl
        | cons y m =>
          rw [cmpTs] at hc
          split at hc
          · rename_i h0
            rw [nodess, nodess, List.map_append, List.map_append, h x (by simp) y h0, ihl m (fun x hx => h x (by simp [hx])) (by simpa using hl) hc]
          · rename_i h0; contradiction
    have := key l m (fun x hx y => ih x hx y) h3 h4
    simp [nodes, hf, this]
theorem countN_map (v : Int) (l : List S30) : countN v l = ((l.map (·.f0)).filter (· == v)).length := by
  unfold countN
  rw [List.filter_map, List.length_map]
  rfl
theorem eqv_count {a b : S30} (h : cmpT a b = 0) (v : Int) : countN v (nodes a) = countN v (nodes b) := by rw [countN_map, countN_map, eqv_nums a b h]
theorem cov_congr {a a' b b' : S30} (ha : cmpT a a' = 0) (hb : cmpT b b' = 0) : covT a b = covT a' b' := by
  rw [Bool.eq_iff_iff, covT_iff, covT_iff]
  have : ∀ x, netV a b x = netV a' b' x := fun x => by rw [netV_eq, netV_eq, eqv_count ha, eqv_count hb]
  simp only [this]
theorem gt_congr : ∀ a a' b b' : S30, cmpT a a' = 0 → cmpT b b' = 0 → gtT a b = gtT a' b' := by
  refine S30.ind ?_
  intro f l ih a' b b' ha hb
  have hcv := cov_congr ha hb
  have hla := cmp_len _ _ ha
  have hlb := cmp_len _ _ hb
  obtain ⟨f', l'⟩ := a'
  obtain ⟨g, m⟩ := b
  obtain ⟨g', m'⟩ := b'
  obtain ⟨rfl, ha2⟩ := cmp_zero ha
  obtain ⟨rfl, hb2⟩ := cmp_zero hb
  rw [gtT, gtT, hcv, hla, hlb]
  congr 1
  split
  · split
    · rfl
    · rename_i hv
      split
      · rename_i hfg
        obtain ⟨h1, h2⟩ := ha2 (by omega)
        obtain ⟨h3, h4⟩ := hb2 (by omega)
        rw [h1, h3]
        split
        · rename_i hlm
          have key : ∀ (l l' m m' : List S30), (∀ x ∈ l, ∀ a' b b' : S30, cmpT x a' = 0 → cmpT b b' = 0 → gtT x b = gtT a' b') → l.length = l'.length → m.length = m'.length → cmpTs l l' = 0 → cmpTs m m' = 0 → gtTs l m = gtTs l' m' := by
            intro l
            induction l with
            | nil => intro l' m m' _ h1 _ _ _; cases l' with
              | nil => rw [gtTs, gtTs]
              | cons => simp at h1
            | cons x l ihl =>
              intro l' m m' h h1 h3 h2 h4
              cases l' with
              | nil => simp at h1
              | cons x' l' =>
                cases m with
                | nil => cases m' with
                  | nil => rw [gtTs, gtTs]
                  | cons => simp at h3
                | cons y m =>
                  cases m' with
                  | nil => simp at h3
                  | cons y' m' =>
                    rw [cmpTs] at h2 h4
                    split at h2
                    · split at h4
                      · rename_i hx hy
                        rw [gtTs, gtTs, ihl l' m m' (fun x hx => h x (by simp [hx])) (by simpa using h1) (by simpa using h3) h2 h4, h x (by simp) x' y y' hx hy]
                        by_cases hxy : cmpT x y = 0
                        · rw [if_pos hxy, if_pos (eqv_trans (eqv_trans (eqv_symm hx) hxy) hy)]
                        · rw [if_neg hxy, if_neg (fun e => hxy (eqv_trans (eqv_trans hx e) (eqv_symm hy)))]
                      · contradiction
                    · contradiction
          exact key l l' m m' ih h1 h3 h2 h4
        · rfl
      · rfl
  · rfl
theorem countN_nodes {f : Int} {l : List S30} (hf : ¬ f < 0) (v : Int) (hv : v < 0) : countN v (nodes ⟨f, l⟩) = countN v (nodess l) := by
  have hn : nodes ⟨f, l⟩ = ⟨f, l⟩ :: nodess l := by simp [nodes, hf]
  rw [hn]
  unfold countN
  rw [List.filter_cons_of_neg]
  simp
  omega
theorem nodess_app (a b : List S30) : nodess (a ++ b) = nodess a ++ nodess b := by
  induction a with
  | nil => rfl
  | cons x a ih => rw [List.cons_append, nodess, nodess, ih, List.append_assoc]
theorem nodess_split (l : List S30) (i : Nat) (hi : i < l.length) (y : S30) : nodess (l.set i y) = nodess (l.take i) ++ nodes y ++ nodess (l.drop (i + 1)) := by
  have h : l.set i y = l.take i ++ ([y] ++ l.drop (i + 1)) := by rw [List.set_eq_take_append_cons_drop, if_pos hi]; rfl
  rw [h, nodess_app, nodess_app]
  simp [nodess]
theorem cmpTs_self : ∀ b : List S30, cmpTs b b = 0
  | [] => by rw [cmpTs]
  | x :: b => by rw [cmpTs, if_pos (cmp_self x)]; exact cmpTs_self b
theorem gtTs_ctx (x y : S30) (b : List S30) : ∀ a : List S30, gtTs (a ++ x :: b) (a ++ y :: b) = gtT x y
  | [] => by
    show gtTs (x :: b) (y :: b) = _
    rw [gtTs]
    by_cases h : cmpT x y = 0
    · rw [if_pos h, gtTs_same b b (cmpTs_self b), gt_same h]
    · rw [if_neg h]
  | z :: a => by
    show gtTs (z :: (a ++ x :: b)) (z :: (a ++ y :: b)) = _
    rw [gtTs, if_pos (cmp_self z)]
    exact gtTs_ctx x y b a
theorem cmpTs_ctx (x y : S30) (b : List S30) : ∀ a : List S30, cmpTs (a ++ x :: b) (a ++ y :: b) = cmpT x y
  | [] => by
    show cmpTs (x :: b) (y :: b) = _
    rw [cmpTs]
    by_cases h : cmpT x y = 0
    · rw [if_pos h, cmpTs_self, h]
    · rw [if_neg h]
  | z :: a => by
    show cmpTs (z :: (a ++ x :: b)) (z :: (a ++ y :: b)) = _
    rw [cmpTs, if_pos (cmp_self z)]
    exact cmpTs_ctx x y b a
theorem set_form (l : List S30) (i : Nat) (hi : i < l.length) (y : S30) : l.set i y = l.take i ++ y :: l.drop (i + 1) := by rw [List.set_eq_take_append_cons_drop, if_pos hi]
theorem ctx_one {f : Int} {l : List S30} {i : Nat} (hf : ¬ f < 0) (hi : i < l.length) (x y : S30) : gtT ⟨f, l.set i x⟩ ⟨f, l.set i y⟩ = gtT x y ∧ cmpT ⟨f, l.set i x⟩ ⟨f, l.set i y⟩ = cmpT x y := by
  have hl : ∀ z : S30, (nodes ⟨f, l.set i z⟩).length = 1 + (nodess (l.take i)).length + (nodes z).length + (nodess (l.drop (i + 1))).length := fun z => by
    have hn : nodes ⟨f, l.set i z⟩ = ⟨f, l.set i z⟩ :: nodess (l.set i z) := by simp [nodes, hf]
    rw [hn, List.length_cons, nodess_split l i hi]
    simp only [List.length_append]
    omega
  have hc : ∀ (z : S30) (v : Int), v < 0 → countN v (nodes ⟨f, l.set i z⟩) = countN v (nodess (l.take i)) + countN v (nodes z) + countN v (nodess (l.drop (i + 1))) := fun z v hv => by
    rw [countN_nodes hf v hv, nodess_split l i hi, countN_append, countN_append]
  have hcov : covT ⟨f, l.set i x⟩ ⟨f, l.set i y⟩ = covT x y := by
    rw [Bool.eq_iff_iff, covT_iff, covT_iff]
    have : ∀ v, netV ⟨f, l.set i x⟩ ⟨f, l.set i y⟩ v = netV x y v := fun v => by
      rw [netV_eq, netV_eq]
      split
      · rename_i hv
        rw [hc x v hv, hc y v hv]
        omega
      · rfl
    simp only [this]
  have hcm : cmpT ⟨f, l.set i x⟩ ⟨f, l.set i y⟩ = cmpT x y := by
    have h1 : cmpT ⟨f, l.set i x⟩ ⟨f, l.set i y⟩ = cmpTs (l.set i x) (l.set i y) := by simp [cmpT, hf, cmpI_self, orI]
    rw [h1, set_form l i hi, set_form l i hi, cmpTs_ctx]
  refine ⟨?_, hcm⟩
  rw [gtT, hcov, hl, hl]
  by_cases hn : (nodes x).length = (nodes y).length
  · rw [if_pos (by omega), if_neg (by omega), if_pos rfl, if_pos (by simp), set_form l i hi, set_form l i hi, gtTs_ctx]
    cases h : gtT x y with
    | false => rw [Bool.and_false]
    | true =>
      obtain ⟨fx, lx⟩ := x
      obtain ⟨fy, ly⟩ := y
      rw [gtT, Bool.and_eq_true] at h
      rw [h.1]
      rfl
  · rw [if_neg (by omega)]
    obtain ⟨fx, lx⟩ := x
    obtain ⟨fy, ly⟩ := y
    rw [gtT, if_neg hn]
    congr 1
    rw [decide_eq_decide]
    omega
end Go.Proofs.Ytpfddihcikiofaa.P
end
