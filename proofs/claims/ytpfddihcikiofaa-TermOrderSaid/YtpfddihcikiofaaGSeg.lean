/- A region that draws its order: the first m ops op by op, whatever order; what waits for all of them comes after. What each op leaves is told by a predicate that stays true while memory grows. -/
import Derived.Test.YtpfddihcikiofaaGRegion
namespace Go.Proofs.Ytpfddihcikiofaa.P
open Go.RowKit Go.Proofs.YtpfddihcikiofaaW.PrintWords Go.Proofs.YtpfddihcikiofaaW.PrintLast Go.Proofs.YtpfddihcikiofaaW.PrintMore
set_option linter.unusedVariables false
set_option linter.unusedSimpArgs false

def layFirst (ops : Array Oper) (m : Nat) (v : Nat → Value) (T : Array Value) : Array Value := (List.range m).foldl (fun T i => match dstOf ops i with | some t => T.setIfInBounds t (v i) | none => T) T
/-- What stands behind the first m ops waits for each of them. -/
def waitsAll (ops : Array Oper) (m : Nat) : Bool :=
  decide (m ≤ ops.size) && (List.range ops.size).all fun i => decide (i < m) || ((ops[i]?).map fun o => (List.range m).all fun j => o.after.any fun e => Region.binds .any e && decide (e.on = j)).getD false
def firstDone (n m : Nat) : Array Bool := Array.ofFn (n := n) fun i => decide (i.val < m)

section
variable {P : Program} {ops : Array Oper} {Q : Exit → Act → World → Prop}
theorem layFirst_eq {base T : Array Value} {v : Nat → Value} {d : Nat → Bool} {m : Nat} (h : Holds ops base T v d) (hr : regionOk ops base.size = true) (hm : m ≤ ops.size) (hall : ∀ i, i < m → d i = true) (hrest : ∀ i, m ≤ i → d i = false) : T = layFirst ops m v base := by
  have key : ∀ (n : Nat), n ≤ m → ∀ t, ((List.range n).foldl (fun T i => match dstOf ops i with | some t => T.setIfInBounds t (v i) | none => T) base).size = base.size ∧
      (((List.range n).foldl (fun T i => match dstOf ops i with | some t => T.setIfInBounds t (v i) | none => T) base).getD t undef = T.getD t undef ∨
       ((∀ j, j < n → dstOf ops j ≠ some t) ∧ ((List.range n).foldl (fun T i => match dstOf ops i with | some t => T.setIfInBounds t (v i) | none => T) base).getD t undef = base.getD t undef)) := by
    intro n
    induction n with
    | zero => intro _ t; exact ⟨rfl, .inr ⟨fun j hj => by omega, rfl⟩⟩
    | succ n ih =>
      intro hn t
      obtain ⟨h1, h2⟩ := ih (by omega) t
      rw [List.range_succ, List.foldl_append]
      simp only [List.foldl_cons, List.foldl_nil]
      generalize (List.range n).foldl (fun T i => match dstOf ops i with | some t => T.setIfInBounds t (v i) | none => T) base = X at h1 h2 ⊢
      cases hd : dstOf ops n with
      | none =>
        refine ⟨h1, h2.imp_right (fun h3 => ⟨fun j hj => ?_, h3.2⟩)⟩
        rcases Nat.lt_or_ge j n with hlt | hge
        · exact h3.1 j hlt
        · rw [show j = n by omega, hd]; simp
      | some s =>
        have hs := (dst_inj hr hd hd).2
        refine ⟨by simp [h1], ?_⟩
        simp only [Array.getD_eq_getD_getElem?, Array.getElem?_setIfInBounds]
        by_cases hst : s = t
        · subst hst
          left
          rw [if_pos rfl, if_pos (show s < X.size by rw [h1]; exact hs)]
          have := h.done n s (hall n (by omega)) hd
          rw [Array.getD_eq_getD_getElem?] at this
          rw [this]
          rfl
        · rw [if_neg hst]
          simp only [Array.getD_eq_getD_getElem?] at h2
          refine h2.imp_right (fun h3 => ⟨fun j hj => ?_, h3.2⟩)
          rcases Nat.lt_or_ge j n with hlt | hge
          · exact h3.1 j hlt
          · rw [show j = n by omega, hd]
            intro e
            injection e with e
            exact hst e
  have hsz := (key m (Nat.le_refl _) 0).1
  refine Array.ext (by rw [h.size]; exact hsz.symm) (fun t h1 h2 => ?_)
  have h3 := (key m (Nat.le_refl _) t).2
  have h4 : (layFirst ops m v base).getD t undef = T.getD t undef := by
    rcases h3 with h3 | ⟨h3, h5⟩
    · exact h3
    · rw [h.base t (fun j hj e => by
        rcases Nat.lt_or_ge j m with hlt | hge
        · exact h3 j hlt e
        · rw [hrest j hge] at hj; cases hj)]
      exact h5
  simp only [Array.getD_eq_getD_getElem?, Array.getElem?_eq_getElem h1, Array.getElem?_eq_getElem h2, Option.getD_some] at h4
  exact h4.symm

theorem count_set : ∀ (l : List Bool) (i : Nat), l[i]? = some false → ((l.set i true).filter (· == false)).length + 1 = (l.filter (· == false)).length := by
  intro l
  induction l with
  | nil => intro i h; simp at h
  | cons b l ih =>
    intro i h
    cases i with
    | zero =>
      simp at h
      subst h
      simp
    | succ i =>
      have := ih i (by simpa using h)
      cases b <;> simp only [List.set_cons_succ, List.filter_cons] <;> simp <;> simpa using this
theorem count_first (n m : Nat) (hm : m ≤ n) : ((firstDone n m).toList.filter (· == false)).length = n - m := by
  unfold firstDone
  rw [Array.toList_ofFn]
  induction n with
  | zero => simp
  | succ n ih =>
    rw [List.ofFn_succ_last]
    rw [List.filter_append, List.length_append]
    rcases Nat.lt_or_ge n m with h | h
    · have hmn : m = n + 1 := by omega
      subst hmn
      have : (List.ofFn (n := n) fun i => decide (i.castSucc.val < n + 1)).filter (· == false) = [] := by
        rw [List.filter_eq_nil_iff]
        intro x hx
        rw [List.mem_ofFn] at hx
        obtain ⟨i, rfl⟩ := hx
        have := i.isLt
        simp
        omega
      rw [this]
      simp
    · have := ih (by omega)
      simp only [Fin.val_castSucc] at this ⊢
      rw [this]
      simp
      rw [show decide (n < m) = false from decide_eq_false (by omega)]
      simp
      omega

theorem region_seg {id : Nat} {a : Act} {w : World} (m : Nat) (hm : P.follows .mixedOrders = true) (hr : regionOk ops a.tmps.size = true) (hw : waitsAll ops m = true) (I : (Nat → Value) → (Nat → Bool) → World → Prop)
    (h0 : ∀ v, I v (fun _ => false) w.drew) (hstep : ∀ i, i < m → StepOk P ops Q a.tmps a.defers I i)
    (hrest : ∀ v d w', (∀ i, i < m → d i = true) → I v d w' → wpAny P .any ops Q (ops.size - m) (firstDone ops.size m) { tmps := layFirst ops m v a.tmps, defers := a.defers } w') : (Code.region id ops true).wp P Q a w := by
  unfold waitsAll at hw
  rw [Bool.and_eq_true, decide_eq_true_eq, List.all_eq_true] at hw
  obtain ⟨hms, hwait⟩ := hw
  refine wp_region_any hm ?_
  have key : ∀ (fuel : Nat) (listed : Array Bool) (v : Nat → Value) (T : Array Value) (w' : World), listed.size = ops.size → (listed.toList.filter (· == false)).length = fuel → (∀ j, m ≤ j → listed.getD j false = false) →
      Holds ops a.tmps T v (fun i => listed.getD i false) → I v (fun i => listed.getD i false) w' → wpAny P .any ops Q fuel listed { tmps := T, defers := a.defers } w' := by
    intro fuel
    induction fuel with
    | zero =>
      intro listed v T w' hl hf hge hH hI
      have hall : ∀ i, i < ops.size → listed.getD i false = true := by
        intro i hi
        have hmem : listed[i]'(by omega) ∈ listed.toList := by simp
        cases hb : listed[i]'(by omega) with
        | true => simp [Array.getD, hl, hi, hb]
        | false =>
          have : false ∈ listed.toList.filter (· == false) := by
            rw [List.mem_filter]
            exact ⟨hb ▸ hmem, rfl⟩
          have := List.length_pos_of_mem this
          omega
      have hmn : ops.size = m := by
        rcases Nat.lt_or_ge m ops.size with h | h
        · have h1 := hall m h
          rw [hge m (Nat.le_refl _)] at h1
          cases h1
        · omega
      have hlist : listed = firstDone ops.size m := by
        refine Array.ext (by simp [firstDone, hl]) (fun i h1 h2 => ?_)
        have h3 := hall i (by omega)
        simp only [Array.getD_eq_getD_getElem?, Array.getElem?_eq_getElem h1, Option.getD_some] at h3
        rw [h3]
        simp [firstDone]
        omega
      have := hrest v _ w' (fun i hi => hall i (by omega)) hI
      rw [layFirst_eq hH hr hms (fun i hi => hall i (by omega)) hge, hlist]
      simpa [hmn] using this
    | succ fuel ih =>
      intro listed v T w' hl hf hge hH hI
      by_cases hall : ∀ i, i < m → listed.getD i false = true
      · have hlist : listed = firstDone ops.size m := by
          refine Array.ext (by simp [firstDone, hl]) (fun i h1 h2 => ?_)
          rcases Nat.lt_or_ge i m with h | h
          · have h3 := hall i h
            simp only [Array.getD_eq_getD_getElem?, Array.getElem?_eq_getElem h1, Option.getD_some] at h3
            rw [h3]
            simp [firstDone, h]
          · have h3 := hge i h
            simp only [Array.getD_eq_getD_getElem?, Array.getElem?_eq_getElem h1, Option.getD_some] at h3
            rw [h3]
            simp [firstDone]
            omega
        have hfu : fuel + 1 = ops.size - m := by
          rw [← hf, hlist, count_first _ _ hms]
        have := hrest v _ w' hall hI
        rw [layFirst_eq hH hr hms hall hge, hlist, hfu]
        exact this
      · -- one of the first is not done: the least such is ready
        have hmin : ∃ i, i < m ∧ listed.getD i false = false ∧ ∀ j, j < i → listed.getD j false = true := by
          have hex : ∃ i, i < m ∧ listed.getD i false = false := by
            refine Classical.byContradiction (fun hne => hall (fun i hi => ?_))
            cases hb : listed.getD i false with
            | true => rfl
            | false => exact absurd ⟨i, hi, hb⟩ hne
          have hfind : ∀ n, (∃ i, i < n ∧ i < m ∧ listed.getD i false = false) → ∃ i, i < m ∧ listed.getD i false = false ∧ ∀ j, j < i → listed.getD j false = true := by
            intro n
            induction n with
            | zero => rintro ⟨i, h, _⟩; omega
            | succ n ihn =>
              rintro ⟨i, h1, h2, h3⟩
              by_cases hsm : ∃ i, i < n ∧ i < m ∧ listed.getD i false = false
              · exact ihn hsm
              · refine ⟨i, h2, h3, fun j hj => ?_⟩
                cases hb : listed.getD j false with
                | true => rfl
                | false => exact absurd ⟨j, by omega, by omega, hb⟩ hsm
          obtain ⟨i, h1, h2⟩ := hex
          exact hfind (i + 1) ⟨i, by omega, h1, h2⟩
        refine ⟨fun hready => ?_, fun i hi => ?_⟩
        · exfalso
          obtain ⟨i, him, hb, hless⟩ := hmin
          have hi : i < ops.size := by omega
          have ho : ops[i]? = some ops[i] := Array.getElem?_eq_getElem hi
          have hmem : i ∈ Region.ready .any ops listed := by
            unfold Region.ready
            rw [List.mem_filter]
            refine ⟨List.mem_range.2 hi, ?_⟩
            have h2 : listed.getD i true = false := by
              simp only [Array.getD_eq_getD_getElem?, Array.getElem?_eq_getElem (show i < listed.size by omega), Option.getD_some] at hb ⊢
              exact hb
            rw [h2, ho]
            simp only [Bool.not_false, Bool.true_and, Option.map_some, Option.getD_some, Array.all_eq_true']
            intro e he
            rw [hless e.on (dep_lt hr ho e he)]
            simp
          rw [hready] at hmem
          cases hmem
        · unfold Region.ready at hi
          rw [List.mem_filter, List.mem_range] at hi
          obtain ⟨hi, hcond⟩ := hi
          have ho : ops[i]? = some ops[i] := Array.getElem?_eq_getElem hi
          rw [ho, Bool.and_eq_true] at hcond
          obtain ⟨hn, hdeps⟩ := hcond
          have hb : listed.getD i false = false := by
            simp only [Array.getD_eq_getD_getElem?, Array.getElem?_eq_getElem (show i < listed.size by omega), Option.getD_some] at hn ⊢
            simpa using hn
          simp only [Option.map_some, Option.getD_some, Array.all_eq_true'] at hdeps
          have him : i < m := by
            rcases Nat.lt_or_ge i m with h | h
            · exact h
            · exfalso
              refine hall (fun j hj => ?_)
              have h1 := hwait i (List.mem_range.2 hi)
              rw [ho, Bool.or_eq_true, decide_eq_true_eq] at h1
              have h2 := h1.resolve_left (by omega)
              simp only [Option.map_some, Option.getD_some, List.all_eq_true] at h2
              have h3 := h2 j (List.mem_range.2 hj)
              rw [Array.any_eq_true'] at h3
              obtain ⟨e, he, h4⟩ := h3
              rw [Bool.and_eq_true, decide_eq_true_eq] at h4
              have h5 := hdeps e he
              rw [h4.1, h4.2] at h5
              simpa using h5
          have hdd : (fun j => (listed.setIfInBounds i true).getD j false) = upd (fun j => listed.getD j false) i true := by
            funext j
            simp only [Array.getD_eq_getD_getElem?, Array.getElem?_setIfInBounds, upd]
            by_cases h1 : i = j
            · subst h1
              simp [show i < listed.size by omega]
            · simp [h1, Ne.symm h1]
          refine wpOp_step ho (fun K' hK' => ?_)
          refine hstep i him _ ho v _ T w' hH hI hb (fun e he hbd => ?_) K' (fun u w2 h2 => hK' _ _ ?_)
          · have := hdeps e he
            rw [hbd] at this
            simpa using this
          · have hdst : (ops[i]).dst = dstOf ops i := by unfold dstOf; rw [ho]; rfl
            rw [hdst]
            have hH2 := hH.put hr hb u a.defers
            rw [← hdd] at hH2 h2
            have hde : ∀ (x : Option Tmp), ({ tmps := T, defers := a.defers : Act }.put x u) = { tmps := ({ tmps := T, defers := a.defers : Act }.put x u).tmps, defers := a.defers } := by
              intro x
              cases x <;> rfl
            rw [hde]
            refine ih _ (upd v i u) _ w2 (by simp [hl]) ?_ (fun j hj => ?_) hH2 h2
            · have h1 : listed.toList[i]? = some false := by
                simp only [Array.getD_eq_getD_getElem?, Array.getElem?_eq_getElem (show i < listed.size by omega), Option.getD_some] at hb
                rw [Array.getElem?_toList, Array.getElem?_eq_getElem (show i < listed.size by omega), hb]
              have := count_set listed.toList i h1
              rw [Array.toList_setIfInBounds]
              omega
            · have h1 := hge j hj
              rw [Array.getD_eq_getD_getElem?] at h1 ⊢
              rw [Array.getElem?_setIfInBounds_ne (by omega)]
              exact h1
  have hf : ∀ i, (Array.replicate ops.size false).getD i false = false := by
    intro i
    simp only [Array.getD_eq_getD_getElem?, Array.getElem?_replicate]
    split <;> rfl
  refine key ops.size _ (fun _ => undef) a.tmps _ (by simp) ?_ (fun j _ => hf j) ?_ ?_
  · rw [Array.toList_replicate, List.filter_eq_self.2 (fun x hx => by rw [List.eq_of_mem_replicate hx]; rfl)]
    simp
  · exact ⟨rfl, fun j t hj => (by rw [hf] at hj; cases hj), fun t _ => rfl⟩
  · have hf2 : (fun i => (Array.replicate ops.size false).getD i false) = (fun _ => false) := funext hf
    rw [hf2]
    exact h0 _

/-! ### by predicates -/
abbrev Told := Value → World → Prop
def Told.is (u : Value) : Told := fun v _ => v = u
/-- It stays true while memory grows. -/
def Told.grows (p : Told) : Prop := ∀ u (w w' : World), p u w → Below w.heap.size w w' → p u w'
theorem Told.is_grows (u : Value) : (Told.is u).grows := fun _ _ _ h _ => h
def DetI (w0 : World) (ps : List Told) (v : Nat → Value) (d : Nat → Bool) (w : World) : Prop := Below w0.heap.size w0 w ∧ ∀ j, d j = true → ∀ p, ps[j]? = some p → p (v j) w
/-- The step of op i, told by p, where the ops ahead are told by ps. -/
def DetStep (P : Program) (ops : Array Oper) (Q : Exit → Act → World → Prop) (base : Array Value) (ds : List Deferred) (w0 : World) (ps : List Told) (o : Oper) (p : Told) : Prop :=
  ∀ (T : Array Value) (w : World), Below w0.heap.size w0 w →
    (∀ j t p, (o.after.any fun e => Region.binds .any e && decide (e.on = j)) = true → dstOf ops j = some t → ps[j]? = some p → p (T.getD t undef) w) →
    (∀ t, ((List.range ops.size).all fun j => decide (dstOf ops j ≠ some t)) = true → T.getD t undef = base.getD t undef) →
    ∀ K : Act → World → Prop, (∀ u w2, Below w.heap.size w w2 → p u w2 → K ({ tmps := T, defers := ds : Act }.put o.dst u) w2) →
      if Region.wanted o (yielded ops T) = true then Oper.wp P o { tmps := T, defers := ds } w K Q else K ({ tmps := T, defers := ds : Act }.put o.dst undef) w
def DetAll (P : Program) (ops : Array Oper) (Q : Exit → Act → World → Prop) (base : Array Value) (ds : List Deferred) (w0 : World) (m i : Nat) (ps : List Told) : Prop :=
  ∃ full : List Told, full.length = m ∧ full.take i = ps ∧ (∀ j, i ≤ j → j < m → ∀ o p, ops[j]? = some o → full[j]? = some p → p.grows ∧ DetStep P ops Q base ds w0 (full.take j) o p) ∧
    ∀ v w', Below w0.heap.size w0 w' → (∀ (j : Nat) (p : Told), full[j]? = some p → p (v j) w') → wpAny P .any ops Q (ops.size - m) (firstDone ops.size m) { tmps := layFirst ops m v base, defers := ds } w'
theorem DetAll.cons {base : Array Value} {ds : List Deferred} {w0 : World} {m i : Nat} {ps : List Told} {o : Oper} {p : Told} (ho : ops[i]? = some o) (hl : ps.length = i) (him : i < m) (hg : p.grows) (h : DetStep P ops Q base ds w0 ps o p)
    (hs : DetAll P ops Q base ds w0 m (i + 1) (ps ++ [p])) : DetAll P ops Q base ds w0 m i ps := by
  obtain ⟨full, h1, h2, h3, h4⟩ := hs
  have htk : full.take i = ps := by
    have h5 : full.take i = (full.take (i + 1)).take i := by rw [List.take_take, Nat.min_eq_left (by omega)]
    rw [h5, h2, List.take_append_of_le_length (by omega), List.take_of_length_le (by omega)]
  refine ⟨full, h1, htk, fun j hj hjm o' p' ho' hp' => ?_, h4⟩
  rcases Nat.lt_or_ge i j with hlt | hge
  · exact h3 j hlt hjm o' p' ho' hp'
  · have hji : j = i := by omega
    subst hji
    rw [ho] at ho'
    injection ho' with ho'
    subst ho'
    have h5 : full[j]? = some p := by
      have h6 : (full.take (j + 1))[j]? = (ps ++ [p])[j]? := by rw [h2]
      rw [List.getElem?_take_of_lt (by omega), List.getElem?_append_right (by omega)] at h6
      rw [h6]
      simp [hl]
    rw [h5] at hp'
    injection hp' with hp'
    subst hp'
    rw [htk]
    exact ⟨hg, h⟩
theorem DetAll.is {base : Array Value} {ds : List Deferred} {w0 : World} {m i : Nat} {ps : List Told} {o : Oper} {u : Value} (ho : ops[i]? = some o) (hl : ps.length = i) (him : i < m)
    (h : ∀ (T : Array Value) (w : World), Below w0.heap.size w0 w →
      (∀ j t p, (o.after.any fun e => Region.binds .any e && decide (e.on = j)) = true → dstOf ops j = some t → ps[j]? = some p → p (T.getD t undef) w) →
      (∀ t, ((List.range ops.size).all fun j => decide (dstOf ops j ≠ some t)) = true → T.getD t undef = base.getD t undef) →
      ∀ K : Act → World → Prop, (∀ w2, Below w.heap.size w w2 → K ({ tmps := T, defers := ds : Act }.put o.dst u) w2) →
        if Region.wanted o (yielded ops T) = true then Oper.wp P o { tmps := T, defers := ds } w K Q else K ({ tmps := T, defers := ds : Act }.put o.dst undef) w)
    (hs : DetAll P ops Q base ds w0 m (i + 1) (ps ++ [Told.is u])) : DetAll P ops Q base ds w0 m i ps :=
  DetAll.cons ho hl him (Told.is_grows u) (fun T w hb hd hB K hK => h T w hb hd hB K (fun w2 h2 => hK u w2 h2 rfl)) hs
theorem DetAll.nil {base : Array Value} {ds : List Deferred} {w0 : World} {m i : Nat} {ps : List Told} (hl : ps.length = m) (hi : i = m)
    (h : ∀ v w', Below w0.heap.size w0 w' → (∀ (j : Nat) (p : Told), ps[j]? = some p → p (v j) w') → wpAny P .any ops Q (ops.size - m) (firstDone ops.size m) { tmps := layFirst ops m v base, defers := ds } w') : DetAll P ops Q base ds w0 m i ps :=
  ⟨ps, hl, List.take_of_length_le (by omega), fun j hj hjm => by omega, h⟩
theorem region_det {id : Nat} {a : Act} {w : World} (m : Nat) (hm : P.follows .mixedOrders = true) (hr : regionOk ops a.tmps.size = true) (hw : waitsAll ops m = true) (h : DetAll P ops Q a.tmps a.defers w m 0 []) : (Code.region id ops true).wp P Q a w := by
  obtain ⟨full, h1, _, h3, h4⟩ := h
  refine region_seg m hm hr hw (DetI w full) (fun v => ⟨pw_below_drewN (Below.refl _ _) 1, fun j hj => by cases hj⟩) (fun i him => ?_) (fun v d w' hall hI => h4 v w' hI.1 (fun j p hp => hI.2 j (hall j (by have := (List.getElem?_eq_some_iff.1 hp).1; omega)) p hp))
  intro o ho v d T w' hH hI hd hdep K hK
  have hp : full[i]? = some full[i] := List.getElem?_eq_getElem (by omega)
  obtain ⟨hg, hs⟩ := h3 i (Nat.zero_le _) him o _ ho hp
  refine hs T w' hI.1 (fun j t p hj hjt hjp => ?_) (fun t ht => hH.base t (fun j _ e => ?_)) K (fun u w2 hb2 hu => hK u w2 ⟨hI.1.trans (hb2.mono hI.1.size), fun j hj p hjp => ?_⟩)
  · rw [Array.any_eq_true'] at hj
    obtain ⟨e, he, h5⟩ := hj
    rw [Bool.and_eq_true, decide_eq_true_eq] at h5
    have hdj : d j = true := by rw [← h5.2]; exact hdep e he h5.1
    rw [hH.done j t hdj hjt]
    have hji : j < i := by rw [← h5.2]; exact dep_lt hr ho e he
    rw [List.getElem?_take_of_lt hji] at hjp
    exact hI.2 j hdj p hjp
  · rw [List.all_eq_true] at ht
    rcases Nat.lt_or_ge j ops.size with hlt | hge
    · exact of_decide_eq_true (ht j (List.mem_range.2 hlt)) e
    · unfold dstOf at e
      rw [Array.getElem?_eq_none hge] at e
      cases e
  · by_cases hji : j = i
    · subst hji
      rw [hp] at hjp
      injection hjp with hjp
      subst hjp
      rw [upd_same]
      exact hu
    · rw [upd_other _ _ hji] at hj ⊢
      have hg2 := (h3 j (Nat.zero_le _) (by have := (List.getElem?_eq_some_iff.1 hjp).1; omega))
      rcases Nat.lt_or_ge j ops.size with hlt | hge
      · exact (hg2 _ p (Array.getElem?_eq_getElem hlt) hjp).1 _ _ _ (hI.2 j hj p hjp) hb2
      · exfalso
        have := (List.getElem?_eq_some_iff.1 hjp).1
        unfold waitsAll at hw
        rw [Bool.and_eq_true, decide_eq_true_eq] at hw
        omega
end
end Go.Proofs.Ytpfddihcikiofaa.P
