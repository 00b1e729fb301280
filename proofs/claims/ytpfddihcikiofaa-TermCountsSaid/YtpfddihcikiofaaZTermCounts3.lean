/- The law TermCounts holds of every input. Part 3 of 3: GSeg, GOf, GTold, GTcRegs, GTermCounts, LawTermCounts. -/
import Derived.Test.YtpfddihcikiofaaZTermCounts2
import Derived.Test.YtpfddihcikiofaaRows
import Derived.WalkKit
import Derived.ProofKit
import Derived.OpenShut
import Derived.ShutString
import Derived.ChangeOld
import Derived.Below
import Derived.SizedLaws
import Derived.Test.YtpfddihcikiofaaZTermCounts1
section
namespace Go.Proofs.Ytpfddihcikiofaa.P
open Go.RowKit Go.Proofs.YtpfddihcikiofaaW.PrintWords Go.Proofs.YtpfddihcikiofaaW.PrintLast Go.Proofs.YtpfddihcikiofaaW.PrintMore
set_option linter.unusedVariables false
set_option linter.unusedSimpArgs false
def layFirst (ops : Array Oper) (m : Nat) (v : Nat → Value) (T : Array Value) : Array Value := (List.range m).foldl (fun T i => match dstOf ops i with | some t => T.setIfInBounds t (v i) | none => T) T
def waitsAll (ops : Array Oper) (m : Nat) : Bool :=
  decide (m ≤ ops.size) && (List.range ops.size).all fun i => decide (i < m) || ((ops[i]?).map fun o => (List.range m).all fun j => o.after.any fun e => Region.binds .any e && decide (e.on = j)).getD false
def firstDone (n m : Nat) : Array Bool := Array.ofFn (n := n) fun i => decide (i.val < m)
section
variable {P : Program} {ops : Array Oper} {Q : Exit → Act → World → Prop}
theorem layFirst_eq {base T : Array Value} {v : Nat → Value} {d : Nat → Bool} {m : Nat} (h : Holds ops base T v d) (hr : regionOk ops base.size = true) (hm : m ≤ ops.size) (hall : ∀ i, i < m → d i = true) (hrest : ∀ i, m ≤ i → d i = false) : T = layFirst ops m v base := by
  have key : ∀ (n : Nat), n ≤ m → ∀ t, ((List.range n).foldl (fun T i => match dstOf ops i with | some t => T.setIfInBounds t (v i) | none => T) base).size = base.size ∧
      (((List.range n).foldl (fun T i => match dstOf ops i with | some t => T.setIfInBounds t (v i) | none => T) base).getD t undef = T.getD t undef ∨
       ((∀ j, j < n → dstOf ops j ≠ some t) ∧ ((List.range n).foldl (fun T i => match dstOf ops i with | some t => T.setIfInBounds t (v i) | none => T) base).getD t undef = base.getD t undef)) := by
    intro n
    induction n with
    | zero => intro _ t; exact ⟨rfl, .inr ⟨fun j hj => by omega, rfl⟩⟩
    | succ n ih =>
      intro hn t
      obtain ⟨h1, h2⟩ := ih (by omega) t
      rw [List.range_succ, List.foldl_append]
      simp only [List.foldl_cons, List.foldl_nil]
      generalize (List.range n).foldl (fun T i => match dstOf ops i with | some t => T.setIfInBounds t (v i) | none => T) base = X at h1 h2 ⊢
      cases hd : dstOf ops n with
      | none =>
        refine ⟨h1, h2.imp_right (fun h3 => ⟨fun j hj => ?_, h3.2⟩)⟩
        rcases Nat.lt_or_ge j n with hlt | hge
        · exact h3.1 j hlt
        · rw [show j = n by omega, hd]; simp
      | some s =>
        have hs := (dst_inj hr hd hd).2
        refine ⟨by simp [h1], ?_⟩
        simp only [Array.getD_eq_getD_getElem?, Array.getElem?_setIfInBounds]
        by_cases hst : s = t
        · subst hst
          left
          rw [if_pos rfl, if_pos (show s < X.size by rw [h1]; exact hs)]
          have := h.done n s (hall n (by omega)) hd
          rw [Array.getD_eq_getD_getElem?] at this
          rw [this]
          rfl
        · rw [if_neg hst]
          simp only [Array.getD_eq_getD_getElem?] at h2
          refine h2.imp_right (fun h3 => ⟨fun j hj => ?_, h3.2⟩)
          rcases Nat.lt_or_ge j n with hlt | hge
          · exact h3.1 j hlt
          · rw [show j = n by omega, hd]
            intro e
            injection e with e
            exact hst e
  have hsz := (key m (Nat.le_refl _) 0).1
  refine Array.ext (by rw [h.size]; exact hsz.symm) (fun t h1 h2 => ?_)
  have h3 := (key m (Nat.le_refl _) t).2
  have h4 : (layFirst ops m v base).getD t undef = T.getD t undef := by
    rcases h3 with h3 | ⟨h3, h5⟩
    · exact h3
    · rw [h.base t (fun j hj e => by
        rcases Nat.lt_or_ge j m with hlt | hge
        · exact h3 j hlt e
        · rw [hrest j hge] at hj; cases hj)]
      exact h5
  simp only [Array.getD_eq_getD_getElem?, Array.getElem?_eq_getElem h1, Array.getElem?_eq_getElem h2, Option.getD_some] at h4
  exact h4.symm
theorem count_set : ∀ (l : List Bool) (i : Nat), l[i]? = some false → ((l.set i true).filter (· == false)).length + 1 = (l.filter (· == false)).length := by
  intro l
  induction l with
  | nil => intro i h; simp at h
  | cons b l ih =>
    intro i h
    cases i with
    | zero =>
      simp at h
      subst h
      simp
    | succ i =>
      have := ih i (by simpa using h)
      cases b <;> simp only [List.set_cons_succ, List.filter_cons] <;> simp <;> simpa using this
theorem count_first (n m : Nat) (hm : m ≤ n) : ((firstDone n m).toList.filter (· == false)).length = n - m := by
  unfold firstDone
  rw [Array.toList_ofFn]
  induction n with
  | zero => simp
  | succ n ih =>
    rw [List.ofFn_succ_last]
    rw [List.filter_append, List.length_append]
    rcases Nat.lt_or_ge n m with h | h
    · have hmn : m = n + 1 := by omega
      subst hmn
      have : (List.ofFn (n := n) fun i => decide (i.castSucc.val < n + 1)).filter (· == false) = [] := by
        rw [List.filter_eq_nil_iff]
        intro x hx
        rw [List.mem_ofFn] at hx
        obtain ⟨i, rfl⟩ := hx
        have := i.isLt
        simp
        omega
      rw [this]
      simp
    · have := ih (by omega)
      simp only [Fin.val_castSucc] at this ⊢
      rw [this]
      simp
      rw [show decide (n < m) = false from decide_eq_false (by omega)]
      simp
      omega
theorem region_seg {id : Nat} {a : Act} {w : World} (m : Nat) (hm : P.follows .mixedOrders = true) (hr : regionOk ops a.tmps.size = true) (hw : waitsAll ops m = true) (I : (Nat → Value) → (Nat → Bool) → World → Prop)
    (h0 : ∀ v, I v (fun _ => false) w.drew) (hstep : ∀ i, i < m → StepOk P ops Q a.tmps a.defers I i)
    (hrest : ∀ v d w', (∀ i, i < m → d i = true) → I v d w' → wpAny P .any ops Q (ops.size - m) (firstDone ops.size m) { tmps := layFirst ops m v a.tmps, defers := a.defers } w') : (Code.region id ops true).wp P Q a w := by
  unfold waitsAll at hw
  rw [Bool.and_eq_true, decide_eq_true_eq, List.all_eq_true] at hw
  obtain ⟨hms, hwait⟩ := hw
  refine wp_region_any hm ?_
  have key : ∀ (fuel : Nat) (listed : Array Bool) (v : Nat → Value) (T : Array Value) (w' : World), listed.size = ops.size → (listed.toList.filter (· == false)).length = fuel → (∀ j, m ≤ j → listed.getD j false = false) →
      Holds ops a.tmps T v (fun i => listed.getD i false) → I v (fun i => listed.getD i false) w' → wpAny P .any ops Q fuel listed { tmps := T, defers := a.defers } w' := by
    intro fuel
    induction fuel with
    | zero =>
      intro listed v T w' hl hf hge hH hI
      have hall : ∀ i, i < ops.size → listed.getD i false = true := by
        intro i hi
        have hmem : listed[i]'(by omega) ∈ listed.toList := by simp
        cases hb : listed[i]'(by omega) with
        | true => simp [Array.getD, hl, hi, hb]
        | false =>
          have : false ∈ listed.toList.filter (· == false) := by
            rw [List.mem_filter]
            exact ⟨hb ▸ hmem, rfl⟩
          have := List.length_pos_of_mem this
          omega
      have hmn : ops.size = m := by
        rcases Nat.lt_or_ge m ops.size with h | h
        · have h1 := hall m h
          rw [hge m (Nat.le_refl _)] at h1
          cases h1
        · omega
      have hlist : listed = firstDone ops.size m := by
        refine Array.ext (by simp [firstDone, hl]) (fun i h1 h2 => ?_)
        have h3 := hall i (by omega)
        simp only [Array.getD_eq_getD_getElem?, Array.getElem?_eq_getElem h1, Option.getD_some] at h3
        rw [h3]
        simp [firstDone]
        omega
      have := hrest v _ w' (fun i hi => hall i (by omega)) hI
      rw [layFirst_eq hH hr hms (fun i hi => hall i (by omega)) hge, hlist]
      simpa [hmn] using this
    | succ fuel ih =>
      intro listed v T w' hl hf hge hH hI
      by_cases hall : ∀ i, i < m → listed.getD i false = true
      · have hlist : listed = firstDone ops.size m := by
          refine Array.ext (by simp [firstDone, hl]) (fun i h1 h2 => ?_)
          rcases Nat.lt_or_ge i m with h | h
          · have h3 := hall i h
            simp only [Array.getD_eq_getD_getElem?, Array.getElem?_eq_getElem h1, Option.getD_some] at h3
            rw [h3]
            simp [firstDone, h]
          · have h3 := hge i h
            simp only [Array.getD_eq_getD_getElem?, Array.getElem?_eq_getElem h1, Option.getD_some] at h3
            rw [h3]
            simp [firstDone]
            omega
        have hfu : fuel + 1 = ops.size - m := by
          rw [← hf, hlist, count_first _ _ hms]
        have := hrest v _ w' hall hI
        rw [layFirst_eq hH hr hms hall hge, hlist, hfu]
        exact this
      ·
        have hmin : ∃ i, i < m ∧ listed.getD i false = false ∧ ∀ j, j < i → listed.getD j false = true := by
          have hex : ∃ i, i < m ∧ listed.getD i false = false := by
            refine Classical.byContradiction (fun hne => hall (fun i hi => ?_))
            cases hb : listed.getD i false with
            | true => rfl
            | false => exact absurd ⟨i, hi, hb⟩ hne
          have hfind : ∀ n, (∃ i, i < n ∧ i < m ∧ listed.getD i false = false) → ∃ i, i < m ∧ listed.getD i false = false ∧ ∀ j, j < i → listed.getD j false = true := by
            intro n
            induction n with
            | zero => rintro ⟨i, h, _⟩; omega
            | succ n ihn =>
              rintro ⟨i, h1, h2, h3⟩
              by_cases hsm : ∃ i, i < n ∧ i < m ∧ listed.getD i false = false
              · exact ihn hsm
              · refine ⟨i, h2, h3, fun j hj => ?_⟩
                cases hb : listed.getD j false with
                | true => rfl
                | false => exact absurd ⟨j, by omega, by omega, hb⟩ hsm
          obtain ⟨i, h1, h2⟩ := hex
          exact hfind (i + 1) ⟨i, by omega, h1, h2⟩
        refine ⟨fun hready => ?_, fun i hi => ?_⟩
        · exfalso
          obtain ⟨i, him, hb, hless⟩ := hmin
          have hi : i < ops.size := by omega
          have ho : ops[i]? = some ops[i] := Array.getElem?_eq_getElem hi
          have hmem : i ∈ Region.ready .any ops listed := by
            unfold Region.ready
            rw [List.mem_filter]
            refine ⟨List.mem_range.2 hi, ?_⟩
            have h2 : listed.getD i true = false := by
              simp only [Array.getD_eq_getD_getElem?, Array.getElem?_eq_getElem (show i < listed.size by omega), Option.getD_some] at hb ⊢
              exact hb
            rw [h2, ho]
            simp only [Bool.not_false, Bool.true_and, Option.map_some, Option.getD_some, Array.all_eq_true']
            intro e he
            cases hbe : Region.binds .any e with
            | false => simp
            | true =>
              rw [hless e.on (dep_lt hr ho e he hbe)]
              simp
          rw [hready] at hmem
          cases hmem
        · unfold Region.ready at hi
          rw [List.mem_filter, List.mem_range] at hi
          obtain ⟨hi, hcond⟩ := hi
          have ho : ops[i]? = some ops[i] := Array.getElem?_eq_getElem hi
          rw [ho, Bool.and_eq_true] at hcond
          obtain ⟨hn, hdeps⟩ := hcond
          have hb : listed.getD i false = false := by
            simp only [Array.getD_eq_getD_getElem?, Array.getElem?_eq_getElem (show i < listed.size by omega), Option.getD_some] at hn ⊢
            simpa using hn
          simp only [Option.map_some, Option.getD_some, Array.all_eq_true'] at hdeps
          have him : i < m := by
            rcases Nat.lt_or_ge i m with h | h
            · exact h
            · exfalso
              refine hall (fun j hj => ?_)
              have h1 := hwait i (List.mem_range.2 hi)
              rw [ho, Bool.or_eq_true, decide_eq_true_eq] at h1
              have h2 := h1.resolve_left (by omega)
              simp only [Option.map_some, Option.getD_some, List.all_eq_true] at h2
              have h3 := h2 j (List.mem_range.2 hj)
              rw [Array.any_eq_true'] at h3
              obtain ⟨e, he, h4⟩ := h3
              rw [Bool.and_eq_true, decide_eq_true_eq] at h4
              have h5 := hdeps e he
              rw [h4.1, h4.2] at h5
              simpa using h5
          have hdd : (fun j => (listed.setIfInBounds i true).getD j false) = upd (fun j => listed.getD j false) i true := by
            funext j
            simp only [Array.getD_eq_getD_getElem?, Array.getElem?_setIfInBounds, upd]
            by_cases h1 : i = j
            · subst h1
              simp [show i < listed.size by omega]
            · simp [h1, Ne.symm h1]
          refine wpOp_step ho (fun K' hK' => ?_)
          refine hstep i him _ ho v _ T w' hH hI hb (fun e he hbd => ?_) K' (fun u w2 h2 => hK' _ _ ?_)
          · have := hdeps e he
            rw [hbd] at this
            simpa using this
          · have hdst : (ops[i]).dst = dstOf ops i := by unfold dstOf; rw [ho]; rfl
            rw [hdst]
            have hH2 := hH.put hr hb u a.defers
            rw [← hdd] at hH2 h2
            have hde : ∀ (x : Option Tmp), ({ tmps := T, defers := a.defers : Act }.put x u) = { tmps := ({ tmps := T, defers := a.defers : Act }.put x u).tmps, defers := a.defers } := by
              intro x
              cases x <;> rfl
            rw [hde]
            refine ih _ (upd v i u) _ w2 (by simp [hl]) ?_ (fun j hj => ?_) hH2 h2
            · have h1 : listed.toList[i]? = some false := by
                simp only [Array.getD_eq_getD_getElem?, Array.getElem?_eq_getElem (show i < listed.size by omega), Option.getD_some] at hb
                rw [Array.getElem?_toList, Array.getElem?_eq_getElem (show i < listed.size by omega), hb]
              have := count_set listed.toList i h1
              rw [Array.toList_setIfInBounds]
              omega
            · have h1 := hge j hj
              rw [Array.getD_eq_getD_getElem?] at h1 ⊢
              rw [Array.getElem?_setIfInBounds_ne (by omega)]
              exact h1
  have hf : ∀ i, (Array.replicate ops.size false).getD i false = false := by
    intro i
    simp only [Array.getD_eq_getD_getElem?, Array.getElem?_replicate]
    split <;> rfl
  refine key ops.size _ (fun _ => undef) a.tmps _ (by simp) ?_ (fun j _ => hf j) ?_ ?_
  · rw [Array.toList_replicate, List.filter_eq_self.2 (fun x hx => by rw [List.eq_of_mem_replicate hx]; rfl)]
    simp
  · exact ⟨rfl, fun j t hj => (by rw [hf] at hj; cases hj), fun t _ => rfl⟩
  · have hf2 : (fun i => (Array.replicate ops.size false).getD i false) = (fun _ => false) := funext hf
    rw [hf2]
    exact h0 _
abbrev Told := Value → World → Prop
def Told.is (u : Value) : Told := fun v _ => v = u
def Told.grows (p : Told) : Prop := ∀ u (w w' : World), p u w → Below w.heap.size w w' → p u w'
theorem Told.is_grows (u : Value) : (Told.is u).grows := fun _ _ _ h _ => h
def DetI (w0 : World) (ps : List Told) (v : Nat → Value) (d : Nat → Bool) (w : World) : Prop := Below w0.heap.size w0 w ∧ ∀ j, d j = true → ∀ p, ps[j]? = some p → p (v j) w
def DetStep (P : Program) (ops : Array Oper) (Q : Exit → Act → World → Prop) (base : Array Value) (ds : List Deferred) (w0 : World) (ps : List Told) (o : Oper) (p : Told) : Prop :=
  ∀ (T : Array Value) (w : World), Below w0.heap.size w0 w →
    (∀ j t p, (o.after.any fun e => Region.binds .any e && decide (e.on = j)) = true → dstOf ops j = some t → ps[j]? = some p → p (T.getD t undef) w) →
    (∀ t, ((List.range ops.size).all fun j => decide (dstOf ops j ≠ some t)) = true → T.getD t undef = base.getD t undef) →
    ∀ K : Act → World → Prop, (∀ u w2, Below w.heap.size w w2 → p u w2 → K ({ tmps := T, defers := ds : Act }.put o.dst u) w2) →
      if Region.wanted o (yielded ops T) = true then Oper.wp P o { tmps := T, defers := ds } w K Q else K ({ tmps := T, defers := ds : Act }.put o.dst undef) w
def DetAll (P : Program) (ops : Array Oper) (Q : Exit → Act → World → Prop) (base : Array Value) (ds : List Deferred) (w0 : World) (m i : Nat) (ps : List Told) : Prop :=
  ∃ full : List Told, full.length = m ∧ full.take i = ps ∧ (∀ j, i ≤ j → j < m → ∀ o p, ops[j]? = some o → full[j]? = some p → p.grows ∧ DetStep P ops Q base ds w0 (full.take j) o p) ∧
    ∀ v w', Below w0.heap.size w0 w' → (∀ (j : Nat) (p : Told), full[j]? = some p → p (v j) w') → wpAny P .any ops Q (ops.size - m) (firstDone ops.size m) { tmps := layFirst ops m v base, defers := ds } w'
theorem DetAll.cons {base : Array Value} {ds : List Deferred} {w0 : World} {m i : Nat} {ps : List Told} {o : Oper} {p : Told} (ho : ops[i]? = some o) (hl : ps.length = i) (him : i < m) (hg : p.grows) (h : DetStep P ops Q base ds w0 ps o p)
    (hs : DetAll P ops Q base ds w0 m (i + 1) (ps ++ [p])) : DetAll P ops Q base ds w0 m i ps := by
  obtain ⟨full, h1, h2, h3, h4⟩ := hs
  have htk : full.take i = ps := by
    have h5 : full.take i = (full.take (i + 1)).take i := by rw [List.take_take, Nat.min_eq_left (by omega)]
    rw [h5, h2, List.take_append_of_le_length (by omega), List.take_of_length_le (by omega)]
  refine ⟨full, h1, htk, fun j hj hjm o' p' ho' hp' => ?_, h4⟩
  rcases Nat.lt_or_ge i j with hlt | hge
  · exact h3 j hlt hjm o' p' ho' hp'
  · have hji : j = i := by omega
    subst hji
    rw [ho] at ho'
    injection ho' with ho'
    subst ho'
    have h5 : full[j]? = some p := by
      have h6 : (full.take (j + 1))[j]? = (ps ++ [p])[j]? := by rw [h2]
      rw [List.getElem?_take_of_lt (by omega), List.getElem?_append_right (by omega)] at h6
      rw [h6]
      simp [hl]
    rw [h5] at hp'
    injection hp' with hp'
    subst hp'
    rw [htk]
    exact ⟨hg, h⟩
theorem DetAll.nil {base : Array Value} {ds : List Deferred} {w0 : World} {m i : Nat} {ps : List Told} (hl : ps.length = m) (hi : i = m)
    (h : ∀ v w', Below w0.heap.size w0 w' → (∀ (j : Nat) (p : Told), ps[j]? = some p → p (v j) w') → wpAny P .any ops Q (ops.size - m) (firstDone ops.size m) { tmps := layFirst ops m v base, defers := ds } w') : DetAll P ops Q base ds w0 m i ps :=
  ⟨ps, hl, List.take_of_length_le (by omega), fun j hj hjm => by omega, h⟩
theorem region_det {id : Nat} {a : Act} {w : World} (m : Nat) (hm : P.follows .mixedOrders = true) (hr : regionOk ops a.tmps.size = true) (hw : waitsAll ops m = true) (h : DetAll P ops Q a.tmps a.defers w m 0 []) : (Code.region id ops true).wp P Q a w := by
  obtain ⟨full, h1, _, h3, h4⟩ := h
  refine region_seg m hm hr hw (DetI w full) (fun v => ⟨pw_below_drewN (Below.refl _ _) 1, fun j hj => by cases hj⟩) (fun i him => ?_) (fun v d w' hall hI => h4 v w' hI.1 (fun j p hp => hI.2 j (hall j (by have := (List.getElem?_eq_some_iff.1 hp).1; omega)) p hp))
  intro o ho v d T w' hH hI hd hdep K hK
  have hp : full[i]? = some full[i] := List.getElem?_eq_getElem (by omega)
  obtain ⟨hg, hs⟩ := h3 i (Nat.zero_le _) him o _ ho hp
  refine hs T w' hI.1 (fun j t p hj hjt hjp => ?_) (fun t ht => hH.base t (fun j _ e => ?_)) K (fun u w2 hb2 hu => hK u w2 ⟨hI.1.trans (hb2.mono hI.1.size), fun j hj p hjp => ?_⟩)
  · rw [Array.any_eq_true'] at hj
    obtain ⟨e, he, h5⟩ := hj
    rw [Bool.and_eq_true, decide_eq_true_eq] at h5
    have hdj : d j = true := by rw [← h5.2]; exact hdep e he h5.1
    rw [hH.done j t hdj hjt]
    have hji : j < i := by rw [← h5.2]; exact dep_lt hr ho e he h5.1
    rw [List.getElem?_take_of_lt hji] at hjp
    exact hI.2 j hdj p hjp
  · rw [List.all_eq_true] at ht
    rcases Nat.lt_or_ge j ops.size with hlt | hge
    · exact of_decide_eq_true (ht j (List.mem_range.2 hlt)) e
    · unfold dstOf at e
      rw [Array.getElem?_eq_none hge] at e
      cases e
  · by_cases hji : j = i
    · subst hji
      rw [hp] at hjp
      injection hjp with hjp
      subst hjp
      rw [upd_same]
      exact hu
    · rw [upd_other _ _ hji] at hj ⊢
      have hg2 := (h3 j (Nat.zero_le _) (by have := (List.getElem?_eq_some_iff.1 hjp).1; omega))
      rcases Nat.lt_or_ge j ops.size with hlt | hge
      · exact (hg2 _ p (Array.getElem?_eq_getElem hlt) hjp).1 _ _ _ (hI.2 j hj p hjp) hb2
      · exfalso
        have := (List.getElem?_eq_some_iff.1 hjp).1
        unfold waitsAll at hw
        rw [Bool.and_eq_true, decide_eq_true_eq] at hw
        omega
end
end Go.Proofs.Ytpfddihcikiofaa.P
end
section
namespace Go.Proofs.Ytpfddihcikiofaa.P
open Go.RowKit Go.Proofs.YtpfddihcikiofaaW.PrintWords Go.Proofs.YtpfddihcikiofaaW.PrintLast Go.Proofs.YtpfddihcikiofaaW.PrintMore
set_option linter.unusedVariables false
set_option linter.unusedSimpArgs false
def Box (n : Nat) (v : Nat → Value) (d : Nat → Bool) (k : Nat) : Prop := ∃ i, i < n ∧ d (2 * n + i) = true ∧ v (2 * n + i) = .pointer (some ⟨k, 0, none⟩)
def TermAt (N : Nat) (ok : Nat → Prop) (w : World) (x : S30) (u : Value) : Prop := ∃ A c, u = .agg #[.int .i64 x.f0, .slice A x.f1.length c] ∧ x.f1.length ≤ c ∧ Kd.F k30 w (fun k => N ≤ k ∧ ok k) A x.f1.length x.f1
def cellsOf : Value → Array Value
  | .agg a => a
  | _ => #[]
structure OfI (n : Nat) (xs : Nat → S30) (arg : Nat → Value) (w0 : World) (v : Nat → Value) (d : Nat → Bool) (w : World) : Prop where
  below : Below w0.heap.size w0 w
  ld : ∀ i, i < n → d (2 * i) = true → v (2 * i) = arg i
  cl : ∀ i, i < n → d (2 * i + 1) = true → TermAt w0.heap.size (fun k => ¬ Box n v d k) w (xs i) (v (2 * i + 1))
  al : ∀ i, i < n → d (2 * n + i) = true → ∃ g, v (2 * n + i) = .pointer (some ⟨g, 0, none⟩) ∧ w0.heap.size ≤ g ∧ (d (3 * n + i) = false → w.heap[g]? = some (.cells #[.int .i64 0, .slice none 0 0] 30 (0, 0))) ∧ (d (3 * n + i) = true → w.heap[g]? = some (.cells (cellsOf (v (2 * i + 1))) 30 (0, 0)))
  ne : ∀ i j, i < n → j < n → i ≠ j → d (2 * n + i) = true → d (2 * n + j) = true → v (2 * n + i) ≠ v (2 * n + j)
  st : ∀ i, i < n → d (3 * n + i) = true → d (2 * n + i) = true ∧ d (2 * i + 1) = true
theorem Box.iff {n i : Nat} {v : Nat → Value} {d : Nat → Bool} {u : Value} (h : ∀ j, j < n → 2 * n + j ≠ i) (k : Nat) : Box n (upd v i u) (upd d i true) k ↔ Box n v d k := by
  unfold Box
  constructor
  · rintro ⟨j, hj, h1, h2⟩
    rw [upd_other _ _ (h j hj)] at h1 h2
    exact ⟨j, hj, h1, h2⟩
  · rintro ⟨j, hj, h1, h2⟩
    exact ⟨j, hj, by rw [upd_other _ _ (h j hj)]; exact h1, by rw [upd_other _ _ (h j hj)]; exact h2⟩
theorem TermAt.imp {N : Nat} {ok ok' : Nat → Prop} {w : World} {x : S30} {u : Value} (h : TermAt N ok w x u) (hi : ∀ k, ok k → ok' k) : TermAt N ok' w x u := by
  obtain ⟨A, c, h1, h2, h3⟩ := h
  exact ⟨A, c, h1, h2, Kd.F_mono h3 (fun k hk => ⟨hk.1, hi k hk.2⟩)⟩
theorem TermAt.step {N : Nat} {ok : Nat → Prop} {w w' : World} {x : S30} {u : Value} (h : TermAt N ok w x u) (hi : ∀ k, ok k → k < w.heap.size → w'.heap[k]? = w.heap[k]?) : TermAt N ok w' x u := by
  obtain ⟨A, c, h1, h2, h3⟩ := h
  exact ⟨A, c, h1, h2, Kd.F_step h3 (fun k hk hlt => hi k hk.2 hlt)⟩
theorem TermAt.bound {N : Nat} {ok : Nat → Prop} {w : World} {x : S30} {u : Value} (h : TermAt N ok w x u) : TermAt N (fun k => ok k ∧ k < w.heap.size) w x u := by
  obtain ⟨A, c, h1, h2, h3⟩ := h
  exact ⟨A, c, h1, h2, Kd.F_mono (Kd.F_bound h3) (fun k hk => ⟨hk.1.1, hk.1.2, hk.2⟩)⟩
theorem TermAt.C {N : Nat} {ok : Nat → Prop} {w : World} {x : S30} {u : Value} (h : TermAt N ok w x u) : ∃ A c, u = .agg #[.int .i64 x.f0, .slice A x.f1.length c] ∧ x.f1.length ≤ c ∧ k30.C w A x.f1.length x.f1 := by
  obtain ⟨A, c, h1, h2, h3⟩ := h
  exact ⟨A, c, h1, h2, Kd.F_now h3⟩
section
variable {n : Nat} {xs : Nat → S30} {arg : Nat → Value} {w0 w : World} {v : Nat → Value} {d : Nat → Bool}
theorem OfI.start (n : Nat) (xs : Nat → S30) (arg : Nat → Value) (w0 : World) (v : Nat → Value) : OfI n xs arg w0 v (fun _ => false) w0.drew :=
  ⟨pw_below_drewN (Below.refl _ _) 1, fun _ _ h => (by cases h), fun _ _ h => (by cases h), fun _ _ h => (by cases h), fun _ _ _ _ _ h => (by cases h), fun _ _ h => (by cases h)⟩
theorem OfI.load (h : OfI n xs arg w0 v d w) {i : Nat} (hi : i < n) (hd : d (2 * i) = false) : OfI n xs arg w0 (upd v (2 * i) (arg i)) (upd d (2 * i) true) w := by
  refine ⟨h.below, fun j hj h1 => ?_, fun j hj h1 => ?_, fun j hj h1 => ?_, fun a b ha hb hab h1 h2 => ?_, fun j hj h1 => ?_⟩
  · by_cases hji : j = i
    · subst hji; rw [upd_same]
    · rw [upd_other _ _ (by omega)] at h1 ⊢; exact h.ld j hj h1
  · rw [upd_other _ _ (by omega)] at h1 ⊢
    exact (h.cl j hj h1).imp (fun k hk hb => hk ((Box.iff (fun j hj => by omega) k).1 hb))
  · rw [upd_other _ _ (by omega)] at h1
    rw [upd_other _ _ (by omega), upd_other _ _ (by omega), upd_other _ _ (by omega)]
    exact h.al j hj h1
  · rw [upd_other _ _ (by omega)] at h1 h2
    rw [upd_other _ _ (by omega), upd_other _ _ (by omega)]
    exact h.ne a b ha hb hab h1 h2
  · rw [upd_other _ _ (by omega)] at h1
    rw [upd_other _ _ (by omega), upd_other _ _ (by omega)]
    exact h.st j hj h1
theorem OfI.boxLt (h : OfI n xs arg w0 v d w) {k : Nat} (hb : Box n v d k) : k < w.heap.size := by
  obtain ⟨i, hi, h1, h2⟩ := hb
  obtain ⟨g, hg, _, h3, h4⟩ := h.al i hi h1
  rw [hg] at h2
  injection h2 with h2
  injection h2 with h2
  injection h2 with h2
  subst h2
  cases hs : d (3 * n + i) with
  | false => exact blk_lt (h3 hs)
  | true => exact blk_lt (h4 hs)
theorem OfI.call (h : OfI n xs arg w0 v d w) {i : Nat} (hi : i < n) (hd : d (2 * i + 1) = false) {v1 : Value} {w' : World} (hb : Below w.heap.size w w') (hR : Kd.R k30 30 w' w.heap.size (fun _ => True) v1 (xs i).f1) :
    OfI n xs arg w0 (upd v (2 * i + 1) (.agg #[.int .i64 (xs i).f0, v1])) (upd d (2 * i + 1) true) w' := by
  have hs := h.below.size
  refine ⟨h.below.trans (hb.mono hs), fun j hj h1 => ?_, fun j hj h1 => ?_, fun j hj h1 => ?_, fun a b ha hb hab h1 h2 => ?_, fun j hj h1 => ?_⟩
  · rw [upd_other _ _ (by omega)] at h1 ⊢; exact h.ld j hj h1
  · by_cases hji : j = i
    · subst hji
      rw [upd_same]
      obtain ⟨A, c, rfl⟩ := Kd.R_slice hR
      have hr := Kd.R_reads' hR
      refine ⟨A, c, rfl, hr.2.1, Kd.F_mono (Kd.R_F (Kd.R_bound hR)) (fun k hk => ⟨by have := hk.2.1; omega, fun hbx => ?_⟩)⟩
      have h1 := h.boxLt ((Box.iff (fun j hj => by omega) k).1 hbx)
      have := hk.2.1
      omega
    · rw [upd_other _ _ (by omega)] at h1 ⊢
      exact ((h.cl j hj h1).step (fun k _ hlt => hb.block k hlt)).imp (fun k hk hb => hk ((Box.iff (fun j hj => by omega) k).1 hb))
  · rw [upd_other _ _ (by omega)] at h1
    rw [upd_other _ _ (by omega), upd_other _ _ (by omega)]
    obtain ⟨g, hg, hge, h3, h4⟩ := h.al j hj h1
    refine ⟨g, hg, hge, fun h5 => blk_below (h3 h5) hb, fun h5 => ?_⟩
    have hji : j ≠ i := fun e => by subst e; have := (h.st j hj h5).2; rw [hd] at this; cases this
    rw [upd_other _ _ (by omega)]
    exact blk_below (h4 h5) hb
  · rw [upd_other _ _ (by omega)] at h1 h2
    rw [upd_other _ _ (by omega), upd_other _ _ (by omega)]
    exact h.ne a b ha hb hab h1 h2
  · rw [upd_other _ _ (by omega)] at h1
    have h2 := h.st j hj h1
    refine ⟨by rw [upd_other _ _ (by omega)]; exact h2.1, ?_⟩
    by_cases hji : j = i
    · subst hji; exact upd_same _ _ _
    · rw [upd_other _ _ (by omega)]; exact h2.2
theorem OfI.alloc (h : OfI n xs arg w0 v d w) {i : Nat} (hi : i < n) (hd : d (2 * n + i) = false) :
    OfI n xs arg w0 (upd v (2 * n + i) (.pointer (some ⟨w.heap.size, 0, none⟩))) (upd d (2 * n + i) true) (w.alloc (.cells #[.int .i64 0, .slice none 0 0] 30)) := by
  have hs := h.below.size
  have hb := below_alloc (Below.refl w.heap.size w) (.cells #[.int .i64 0, .slice none 0 0] 30)
  refine ⟨h.below.trans (hb.mono hs), fun j hj h1 => ?_, fun j hj h1 => ?_, fun j hj h1 => ?_, fun a b ha hb hab h1 h2 => ?_, fun j hj h1 => ?_⟩
  · rw [upd_other _ _ (by omega)] at h1 ⊢; exact h.ld j hj h1
  · rw [upd_other _ _ (by omega)] at h1 ⊢
    refine ((h.cl j hj h1).bound.step (fun k _ hlt => hb.block k hlt)).imp (fun k hk hbx => ?_)
    obtain ⟨q, hq, h2, h3⟩ := hbx
    by_cases hqi : q = i
    · subst hqi
      rw [upd_same] at h3
      injection h3 with h3
      injection h3 with h3
      injection h3 with h3
      have := hk.2
      omega
    · rw [upd_other _ _ (by omega)] at h2 h3
      exact hk.1 ⟨q, hq, h2, h3⟩
  · by_cases hji : j = i
    · subst hji
      rw [upd_same]
      refine ⟨_, rfl, hs, fun _ => heap_alloc_new _ _, fun h5 => ?_⟩
      rw [upd_other _ _ (by omega)] at h5
      have := (h.st j hj h5).1
      rw [hd] at this; cases this
    · rw [upd_other _ _ (by omega)] at h1
      rw [upd_other _ _ (by omega), upd_other _ _ (by omega), upd_other _ _ (by omega)]
      obtain ⟨g, hg, hge, h3, h4⟩ := h.al j hj h1
      exact ⟨g, hg, hge, fun h5 => blk_below (h3 h5) hb, fun h5 => blk_below (h4 h5) hb⟩
  · have hfresh : ∀ j, j < n → d (2 * n + j) = true → v (2 * n + j) ≠ .pointer (some ⟨w.heap.size, 0, none⟩) := by
      intro j hj h3 e
      have := h.boxLt ⟨j, hj, h3, e⟩
      omega
    by_cases hai : a = i
    · subst hai
      rw [upd_other _ _ (by omega)] at h2
      rw [upd_same, upd_other _ _ (by omega)]
      exact fun e => hfresh b hb h2 e.symm
    · rw [upd_other _ _ (by omega)] at h1
      rw [upd_other _ _ (show 2 * n + a ≠ 2 * n + i by omega)]
      by_cases hbi : b = i
      · subst hbi
        rw [upd_same]
        exact hfresh a ha h1
      · rw [upd_other _ _ (by omega)] at h2 ⊢
        exact h.ne a b ha hb hab h1 h2
  · rw [upd_other _ _ (by omega)] at h1
    have h2 := h.st j hj h1
    refine ⟨?_, by rw [upd_other _ _ (by omega)]; exact h2.2⟩
    by_cases hji : j = i
    · subst hji; exact upd_same _ _ _
    · rw [upd_other _ _ (by omega)]; exact h2.1
theorem OfI.store (h : OfI n xs arg w0 v d w) {i : Nat} (hi : i < n) (hd : d (3 * n + i) = false) (ha : d (2 * n + i) = true) (hc : d (2 * i + 1) = true) {g : Nat} (hg : v (2 * n + i) = .pointer (some ⟨g, 0, none⟩)) {f : Int} {s : Value}
    (hu : v (2 * i + 1) = .agg #[.int .i64 f, s]) (u : Value) : OfI n xs arg w0 (upd v (3 * n + i) u) (upd d (3 * n + i) true) ((w.setCell ⟨g, 0, none⟩ (.int .i64 f)).setCell ⟨g, 1, none⟩ s) := by
  have hs := h.below.size
  obtain ⟨g', hg', hge, hz, _⟩ := h.al i hi ha
  rw [hg] at hg'
  injection hg' with hg'
  injection hg' with hg'
  injection hg' with hg'
  subst hg'
  have hz := hz hd
  have hfar : ∀ k, k ≠ g → ((w.setCell ⟨g, 0, none⟩ (.int .i64 f)).setCell ⟨g, 1, none⟩ s).heap[k]? = w.heap[k]? := fun k hk => (Below.heap_setCell _ _ _ _ hk).trans (Below.heap_setCell _ _ _ _ hk)
  have hnew : ((w.setCell ⟨g, 0, none⟩ (.int .i64 f)).setCell ⟨g, 1, none⟩ s).heap[g]? = some (.cells #[.int .i64 f, s] 30 (0, 0)) := blk_put (blk_put hz 0 (.int .i64 f) rfl) 1 s rfl
  refine ⟨(h.below.setCell hge _).setCell hge _, fun j hj h1 => ?_, fun j hj h1 => ?_, fun j hj h1 => ?_, fun a b ha hb hab h1 h2 => ?_, fun j hj h1 => ?_⟩
  · rw [upd_other _ _ (by omega)] at h1 ⊢; exact h.ld j hj h1
  · rw [upd_other _ _ (by omega)] at h1 ⊢
    refine ((h.cl j hj h1).step (fun k hk _ => hfar k (fun e => hk ?_))).imp (fun k hk hb => hk ((Box.iff (fun j hj => by omega) k).1 hb))
    subst e
    exact ⟨i, hi, ha, hg⟩
  · rw [upd_other _ _ (by omega)] at h1
    rw [upd_other _ _ (by omega), upd_other (i := 3 * n + i) (j := 2 * j + 1) _ _ (by omega)]
    obtain ⟨g2, hg2, hge2, h3, h4⟩ := h.al j hj h1
    by_cases hji : j = i
    · subst hji
      rw [hg] at hg2
      injection hg2 with hg2
      injection hg2 with hg2
      injection hg2 with hg2
      subst hg2
      refine ⟨g, hg, hge, fun h5 => ?_, fun _ => ?_⟩
      · rw [upd_same] at h5; cases h5
      · rw [hnew, hu]; rfl
    · have hne : g2 ≠ g := fun e => h.ne j i hj hi hji h1 ha (by rw [hg2, hg, e])
      refine ⟨g2, hg2, hge2, fun h5 => ?_, fun h5 => ?_⟩
      · rw [upd_other _ _ (by omega)] at h5; rw [hfar _ hne]; exact h3 h5
      · rw [upd_other _ _ (by omega)] at h5; rw [hfar _ hne]; exact h4 h5
  · rw [upd_other _ _ (by omega)] at h1 h2
    rw [upd_other _ _ (by omega), upd_other _ _ (by omega)]
    exact h.ne a b ha hb hab h1 h2
  · by_cases hji : j = i
    · subst hji
      exact ⟨by rw [upd_other _ _ (by omega)]; exact ha, by rw [upd_other _ _ (by omega)]; exact hc⟩
    · rw [upd_other _ _ (by omega)] at h1
      rw [upd_other _ _ (by omega), upd_other _ _ (by omega)]
      exact h.st j hj h1
end
set_option maxRecDepth 100000 in
set_option maxHeartbeats 4000000 in
theorem of_two {id : Nat} {l0 s0 c0 b0 l1 s1 c1 b1 : Tmp} {p0 p1 p2 p3 p4 p5 p6 p7 : String} {a : Act} {w : World} {Q : Exit → Act → World → Prop}
    (hr : regionOk #[{ dst := some l0, op := Op.load 24 (Operand.tmp s0), type := 24, pos := p0, after := #[], guard := none }, { dst := some c0, op := Op.call { callee := Callee.value (Operand.func 22), args := #[Operand.tmp l0], argTypes := #[24] }, type := 30, pos := p1, after := #[{ on := 0, ground := Ground.data }], guard := none }, { dst := some l1, op := Op.load 24 (Operand.tmp s1), type := 24, pos := p2, after := #[], guard := none }, { dst := some c1, op := Op.call { callee := Callee.value (Operand.func 22), args := #[Operand.tmp l1], argTypes := #[24] }, type := 30, pos := p3, after := #[{ on := 2, ground := Ground.data }, { on := 1, ground := Ground.chain }], guard := none }, { dst := some b0, op := Op.alloc 30, type := 0, pos := p4, after := #[], guard := none }, { dst := some b1, op := Op.alloc 30, type := 0, pos := p5, after := #[], guard := none }, { dst := none, op := Op.store 30 (Operand.tmp b0) (Operand.tmp c0), type := 0, pos := p6, after := #[{ on := 4, ground := Ground.data }, { on := 1, ground := Ground.data }, { on := 3, ground := Ground.chain }, { on := 0, ground := Ground.phase }, { on := 1, ground := Ground.phase }, { on := 2, ground := Ground.textOnly Departure.lateStores }, { on := 3, ground := Ground.textOnly Departure.lateStoresUnsure }, { on := 4, ground := Ground.phase }, { on := 5, ground := Ground.phase }], guard := none }, { dst := none, op := Op.store 30 (Operand.tmp b1) (Operand.tmp c1), type := 0, pos := p7, after := #[{ on := 5, ground := Ground.data }, { on := 3, ground := Ground.data }, { on := 6, ground := Ground.chain }, { on := 0, ground := Ground.phase }, { on := 1, ground := Ground.phase }, { on := 2, ground := Ground.phase }, { on := 3, ground := Ground.phase }, { on := 4, ground := Ground.phase }, { on := 5, ground := Ground.phase }, { on := 6, ground := Ground.phase }], guard := none }] a.tmps.size = true)
    (hn : ([s0, s1]).all (fun t => (List.range 8).all fun j => decide (dstOf #[{ dst := some l0, op := Op.load 24 (Operand.tmp s0), type := 24, pos := p0, after := #[], guard := none }, { dst := some c0, op := Op.call { callee := Callee.value (Operand.func 22), args := #[Operand.tmp l0], argTypes := #[24] }, type := 30, pos := p1, after := #[{ on := 0, ground := Ground.data }], guard := none }, { dst := some l1, op := Op.load 24 (Operand.tmp s1), type := 24, pos := p2, after := #[], guard := none }, { dst := some c1, op := Op.call { callee := Callee.value (Operand.func 22), args := #[Operand.tmp l1], argTypes := #[24] }, type := 30, pos := p3, after := #[{ on := 2, ground := Ground.data }, { on := 1, ground := Ground.chain }], guard := none }, { dst := some b0, op := Op.alloc 30, type := 0, pos := p4, after := #[], guard := none }, { dst := some b1, op := Op.alloc 30, type := 0, pos := p5, after := #[], guard := none }, { dst := none, op := Op.store 30 (Operand.tmp b0) (Operand.tmp c0), type := 0, pos := p6, after := #[{ on := 4, ground := Ground.data }, { on := 1, ground := Ground.data }, { on := 3, ground := Ground.chain }, { on := 0, ground := Ground.phase }, { on := 1, ground := Ground.phase }, { on := 2, ground := Ground.textOnly Departure.lateStores }, { on := 3, ground := Ground.textOnly Departure.lateStoresUnsure }, { on := 4, ground := Ground.phase }, { on := 5, ground := Ground.phase }], guard := none }, { dst := none, op := Op.store 30 (Operand.tmp b1) (Operand.tmp c1), type := 0, pos := p7, after := #[{ on := 5, ground := Ground.data }, { on := 3, ground := Ground.data }, { on := 6, ground := Ground.chain }, { on := 0, ground := Ground.phase }, { on := 1, ground := Ground.phase }, { on := 2, ground := Ground.phase }, { on := 3, ground := Ground.phase }, { on := 4, ground := Ground.phase }, { on := 5, ground := Ground.phase }, { on := 6, ground := Ground.phase }], guard := none }] j ≠ some t)) = true)
    {x0 : S30} {A0 : Option Addr} {k0 g0 : Nat} (hs0 : a.tmps.getD s0 undef = .pointer (some ⟨g0, 0, none⟩)) (hb0 : w.heap[g0]? = some (.cells #[.int .i64 x0.f0, .slice A0 x0.f1.length k0] 24 (0, 0))) (hC0 : k24.C w A0 x0.f1.length x0.f1) (hk0 : x0.f1.length ≤ k0) (ho0 : ok x0)
    {x1 : S30} {A1 : Option Addr} {k1 g1 : Nat} (hs1 : a.tmps.getD s1 undef = .pointer (some ⟨g1, 0, none⟩)) (hb1 : w.heap[g1]? = some (.cells #[.int .i64 x1.f0, .slice A1 x1.f1.length k1] 24 (0, 0))) (hC1 : k24.C w A1 x1.f1.length x1.f1) (hk1 : x1.f1.length ≤ k1) (ho1 : ok x1)
    (hK : ∀ (w' : World) (X0 : Option Addr) (q0 h0 : Nat) (X1 : Option Addr) (q1 h1 : Nat), Below w.heap.size w w' → w.heap.size ≤ h0 → w'.heap[h0]? = some (.cells #[.int .i64 x0.f0, .slice X0 x0.f1.length q0] 30 (0, 0)) → x0.f1.length ≤ q0 → k30.C w' X0 x0.f1.length x0.f1 → w.heap.size ≤ h1 → w'.heap[h1]? = some (.cells #[.int .i64 x1.f0, .slice X1 x1.f1.length q1] 30 (0, 0)) → x1.f1.length ≤ q1 → k30.C w' X1 x1.f1.length x1.f1 → Q .normal { tmps := ((((((a.tmps.setIfInBounds l0 (.agg #[.int .i64 x0.f0, .slice A0 x0.f1.length k0])).setIfInBounds c0 (.agg #[.int .i64 x0.f0, .slice X0 x0.f1.length q0])).setIfInBounds l1 (.agg #[.int .i64 x1.f0, .slice A1 x1.f1.length k1])).setIfInBounds c1 (.agg #[.int .i64 x1.f0, .slice X1 x1.f1.length q1])).setIfInBounds b0 (.pointer (some ⟨h0, 0, none⟩))).setIfInBounds b1 (.pointer (some ⟨h1, 0, none⟩))), defers := a.defers } w') :
    (Code.region id #[{ dst := some l0, op := Op.load 24 (Operand.tmp s0), type := 24, pos := p0, after := #[], guard := none }, { dst := some c0, op := Op.call { callee := Callee.value (Operand.func 22), args := #[Operand.tmp l0], argTypes := #[24] }, type := 30, pos := p1, after := #[{ on := 0, ground := Ground.data }], guard := none }, { dst := some l1, op := Op.load 24 (Operand.tmp s1), type := 24, pos := p2, after := #[], guard := none }, { dst := some c1, op := Op.call { callee := Callee.value (Operand.func 22), args := #[Operand.tmp l1], argTypes := #[24] }, type := 30, pos := p3, after := #[{ on := 2, ground := Ground.data }, { on := 1, ground := Ground.chain }], guard := none }, { dst := some b0, op := Op.alloc 30, type := 0, pos := p4, after := #[], guard := none }, { dst := some b1, op := Op.alloc 30, type := 0, pos := p5, after := #[], guard := none }, { dst := none, op := Op.store 30 (Operand.tmp b0) (Operand.tmp c0), type := 0, pos := p6, after := #[{ on := 4, ground := Ground.data }, { on := 1, ground := Ground.data }, { on := 3, ground := Ground.chain }, { on := 0, ground := Ground.phase }, { on := 1, ground := Ground.phase }, { on := 2, ground := Ground.textOnly Departure.lateStores }, { on := 3, ground := Ground.textOnly Departure.lateStoresUnsure }, { on := 4, ground := Ground.phase }, { on := 5, ground := Ground.phase }], guard := none }, { dst := none, op := Op.store 30 (Operand.tmp b1) (Operand.tmp c1), type := 0, pos := p7, after := #[{ on := 5, ground := Ground.data }, { on := 3, ground := Ground.data }, { on := 6, ground := Ground.chain }, { on := 0, ground := Ground.phase }, { on := 1, ground := Ground.phase }, { on := 2, ground := Ground.phase }, { on := 3, ground := Ground.phase }, { on := 4, ground := Ground.phase }, { on := 5, ground := Ground.phase }, { on := 6, ground := Ground.phase }], guard := none }] true).wp Try.prog Q a w := by
  have hmx : Try.prog.follows .mixedOrders = true := by kernel_rfl
  obtain ⟨K0, hO0⟩ := (Of_spec x0 ho0).rounds
  obtain ⟨K1, hO1⟩ := (Of_spec x1 ho1).rounds
  have hne : ∀ j t, t ∈ [s0, s1] → dstOf #[{ dst := some l0, op := Op.load 24 (Operand.tmp s0), type := 24, pos := p0, after := #[], guard := none }, { dst := some c0, op := Op.call { callee := Callee.value (Operand.func 22), args := #[Operand.tmp l0], argTypes := #[24] }, type := 30, pos := p1, after := #[{ on := 0, ground := Ground.data }], guard := none }, { dst := some l1, op := Op.load 24 (Operand.tmp s1), type := 24, pos := p2, after := #[], guard := none }, { dst := some c1, op := Op.call { callee := Callee.value (Operand.func 22), args := #[Operand.tmp l1], argTypes := #[24] }, type := 30, pos := p3, after := #[{ on := 2, ground := Ground.data }, { on := 1, ground := Ground.chain }], guard := none }, { dst := some b0, op := Op.alloc 30, type := 0, pos := p4, after := #[], guard := none }, { dst := some b1, op := Op.alloc 30, type := 0, pos := p5, after := #[], guard := none }, { dst := none, op := Op.store 30 (Operand.tmp b0) (Operand.tmp c0), type := 0, pos := p6, after := #[{ on := 4, ground := Ground.data }, { on := 1, ground := Ground.data }, { on := 3, ground := Ground.chain }, { on := 0, ground := Ground.phase }, { on := 1, ground := Ground.phase }, { on := 2, ground := Ground.textOnly Departure.lateStores }, { on := 3, ground := Ground.textOnly Departure.lateStoresUnsure }, { on := 4, ground := Ground.phase }, { on := 5, ground := Ground.phase }], guard := none }, { dst := none, op := Op.store 30 (Operand.tmp b1) (Operand.tmp c1), type := 0, pos := p7, after := #[{ on := 5, ground := Ground.data }, { on := 3, ground := Ground.data }, { on := 6, ground := Ground.chain }, { on := 0, ground := Ground.phase }, { on := 1, ground := Ground.phase }, { on := 2, ground := Ground.phase }, { on := 3, ground := Ground.phase }, { on := 4, ground := Ground.phase }, { on := 5, ground := Ground.phase }, { on := 6, ground := Ground.phase }], guard := none }] j ≠ some t := by
    intro j t ht
    rw [List.all_eq_true] at hn
    have h1 := hn t ht
    rw [List.all_eq_true] at h1
    rcases Nat.lt_or_ge j 8 with hlt | hge
    · exact of_decide_eq_true (h1 j (List.mem_range.2 hlt))
    · unfold dstOf
      rw [Array.getElem?_eq_none (by simpa using hge)]
      simp
  refine region_vals hmx hr (OfI 2 (fun i => match i with | 0 => x0 | 1 => x1 | _ => z30) (fun i => match i with | 0 => .agg #[.int .i64 x0.f0, .slice A0 x0.f1.length k0] | 1 => .agg #[.int .i64 x1.f0, .slice A1 x1.f1.length k1] | _ => undef) w) (fun v => OfI.start _ _ _ _ _) (fun i => ?_) (fun v d w' hall hI => ?_)
  · rcases Nat.lt_or_ge i 8 with hlt | hge
    rotate_left
    · intro o ho
      rw [Array.getElem?_eq_none (by simpa using hge)] at ho
      cases ho
    intro o ho v d T w' hH hI hd hdep K hK
    match i, hlt with
    | 0, _ =>
      simp only [List.getElem?_toArray, List.getElem?_cons_zero, List.getElem?_cons_succ, Option.some.injEq] at ho
      subst ho
      have e1 : T.getD s0 undef = .pointer (some ⟨g0, 0, none⟩) := (hH.base _ (fun j _ => hne j _ (by simp))).trans hs0
      have hb := hI.below.block g0 (blk_lt hb0)
      have hc0 : w'.cell? ⟨g0, 0, none⟩ = some (.int .i64 x0.f0) := (blk_cell (hb.trans hb0) 0).trans rfl
      have hc1 : w'.cell? ⟨g0, 1, none⟩ = some (.slice A0 x0.f1.length k0) := (blk_cell (hb.trans hb0) 1).trans rfl
      have hfin := hK _ _ (OfI.load (i := 0) hI (by omega) hd)
      clear hK hdep hI hH hr hn hne
      go_simp
      exact hfin
    | 1, _ =>
      simp only [List.getElem?_toArray, List.getElem?_cons_zero, List.getElem?_cons_succ, Option.some.injEq] at ho
      subst ho
      have hd0 : d 0 = true := hdep { on := 0, ground := Ground.data } (by simp) rfl
      have e1 : T.getD l0 undef = .agg #[.int .i64 x0.f0, .slice A0 x0.f1.length k0] := (hH.done 0 _ hd0 rfl).trans (hI.ld 0 (by omega) hd0)
      have hcall := (soriteslaw06_Of.calls K0 x0.f0 A0 k0 x0.f1 x0.f0 x0.f1 w' (Kd.C_below hC0 hI.below) hk0 hO0)
      have hfin : ∀ v1 w2, Kd.R k30 30 w2 w'.heap.size (fun _ => True) v1 x0.f1 → Below w'.heap.size w' w2 → _ := fun v1 w2 h1 h2 => hK _ _ (OfI.call (i := 0) hI (by omega) hd h2 h1)
      clear hK hdep hI hH hr hn hne
      go_simp
      go_at_call 22
      refine hcall.mono ?_
      rintro e w2 ⟨v1, rfl, h1, h2⟩
      exact hfin _ _ h1 h2
    | 2, _ =>
      simp only [List.getElem?_toArray, List.getElem?_cons_zero, List.getElem?_cons_succ, Option.some.injEq] at ho
      subst ho
      have e1 : T.getD s1 undef = .pointer (some ⟨g1, 0, none⟩) := (hH.base _ (fun j _ => hne j _ (by simp))).trans hs1
      have hb := hI.below.block g1 (blk_lt hb1)
      have hc0 : w'.cell? ⟨g1, 0, none⟩ = some (.int .i64 x1.f0) := (blk_cell (hb.trans hb1) 0).trans rfl
      have hc1 : w'.cell? ⟨g1, 1, none⟩ = some (.slice A1 x1.f1.length k1) := (blk_cell (hb.trans hb1) 1).trans rfl
      have hfin := hK _ _ (OfI.load (i := 1) hI (by omega) hd)
      clear hK hdep hI hH hr hn hne
      go_simp
      exact hfin
    | 3, _ =>
      simp only [List.getElem?_toArray, List.getElem?_cons_zero, List.getElem?_cons_succ, Option.some.injEq] at ho
      subst ho
      have hd0 : d 2 = true := hdep { on := 2, ground := Ground.data } (by simp) rfl
      have e1 : T.getD l1 undef = .agg #[.int .i64 x1.f0, .slice A1 x1.f1.length k1] := (hH.done 2 _ hd0 rfl).trans (hI.ld 1 (by omega) hd0)
      have hcall := (soriteslaw06_Of.calls K1 x1.f0 A1 k1 x1.f1 x1.f0 x1.f1 w' (Kd.C_below hC1 hI.below) hk1 hO1)
      have hfin : ∀ v1 w2, Kd.R k30 30 w2 w'.heap.size (fun _ => True) v1 x1.f1 → Below w'.heap.size w' w2 → _ := fun v1 w2 h1 h2 => hK _ _ (OfI.call (i := 1) hI (by omega) hd h2 h1)
      clear hK hdep hI hH hr hn hne
      go_simp
      go_at_call 22
      refine hcall.mono ?_
      rintro e w2 ⟨v1, rfl, h1, h2⟩
      exact hfin _ _ h1 h2
    | 4, _ =>
      simp only [List.getElem?_toArray, List.getElem?_cons_zero, List.getElem?_cons_succ, Option.some.injEq] at ho
      subst ho
      have hfin := hK _ _ (OfI.alloc (i := 0) hI (by omega) hd)
      clear hK hdep hI hH hr hn hne
      go_simp
      exact hfin
    | 5, _ =>
      simp only [List.getElem?_toArray, List.getElem?_cons_zero, List.getElem?_cons_succ, Option.some.injEq] at ho
      subst ho
      have hfin := hK _ _ (OfI.alloc (i := 1) hI (by omega) hd)
      clear hK hdep hI hH hr hn hne
      go_simp
      exact hfin
    | 6, _ =>
      simp only [List.getElem?_toArray, List.getElem?_cons_zero, List.getElem?_cons_succ, Option.some.injEq] at ho
      subst ho
      have hda : d 4 = true := hdep { on := 4, ground := Ground.data } (by simp) rfl
      have hdc : d 1 = true := hdep { on := 1, ground := Ground.data } (by simp) rfl
      obtain ⟨g, hg, hge, hz, _⟩ := hI.al 0 (by omega) hda
      obtain ⟨X, q, hX, hq, hF⟩ := hI.cl 0 (by omega) hdc
      have e1 : T.getD b0 undef = .pointer (some ⟨g, 0, none⟩) := (hH.done 4 _ hda rfl).trans hg
      have e2 : T.getD c0 undef = .agg #[.int .i64 x0.f0, .slice X x0.f1.length q] := (hH.done 1 _ hdc rfl).trans hX
      have hz := hz hd
      have hc0 : w'.cell? ⟨g, 0, none⟩ = some (.int .i64 0) := (blk_cell hz 0).trans rfl
      have hc1 : w'.cell? ⟨g, 1, none⟩ = some (.slice none 0 0) := (blk_cell hz 1).trans rfl
      have hf0 := blk_frozen hz 0
      have hf1 := blk_frozen hz 1
      have hfin := fun u => hK u _ (OfI.store (i := 0) hI (by omega) hd hda hdc hg hX u)
      clear hK hdep hI hH hr hn hne hz
      go_simp
      exact hfin undef
    | 7, _ =>
      simp only [List.getElem?_toArray, List.getElem?_cons_zero, List.getElem?_cons_succ, Option.some.injEq] at ho
      subst ho
      have hda : d 5 = true := hdep { on := 5, ground := Ground.data } (by simp) rfl
      have hdc : d 3 = true := hdep { on := 3, ground := Ground.data } (by simp) rfl
      obtain ⟨g, hg, hge, hz, _⟩ := hI.al 1 (by omega) hda
      obtain ⟨X, q, hX, hq, hF⟩ := hI.cl 1 (by omega) hdc
      have e1 : T.getD b1 undef = .pointer (some ⟨g, 0, none⟩) := (hH.done 5 _ hda rfl).trans hg
      have e2 : T.getD c1 undef = .agg #[.int .i64 x1.f0, .slice X x1.f1.length q] := (hH.done 3 _ hdc rfl).trans hX
      have hz := hz hd
      have hc0 : w'.cell? ⟨g, 0, none⟩ = some (.int .i64 0) := (blk_cell hz 0).trans rfl
      have hc1 : w'.cell? ⟨g, 1, none⟩ = some (.slice none 0 0) := (blk_cell hz 1).trans rfl
      have hf0 := blk_frozen hz 0
      have hf1 := blk_frozen hz 1
      have hfin := fun u => hK u _ (OfI.store (i := 1) hI (by omega) hd hda hdc hg hX u)
      clear hK hdep hI hH hr hn hne hz
      go_simp
      exact hfin undef
  · obtain ⟨h0, hg0, hge0, _, hz0⟩ := hI.al 0 (by omega) (hall 4 (by simp))
    obtain ⟨X0, q0, hX0, hq0, hF0⟩ := (hI.cl 0 (by omega) (hall 1 (by simp))).C
    have hz0 := hz0 (hall 6 (by simp))
    have hl0 := hI.ld 0 (by omega) (hall 0 (by simp))
    simp only [Nat.reduceMul, Nat.reduceAdd] at hg0 hz0 hX0 hl0
    rw [hX0] at hz0
    obtain ⟨h1, hg1, hge1, _, hz1⟩ := hI.al 1 (by omega) (hall 5 (by simp))
    obtain ⟨X1, q1, hX1, hq1, hF1⟩ := (hI.cl 1 (by omega) (hall 3 (by simp))).C
    have hz1 := hz1 (hall 7 (by simp))
    have hl1 := hI.ld 1 (by omega) (hall 2 (by simp))
    simp only [Nat.reduceMul, Nat.reduceAdd] at hg1 hz1 hX1 hl1
    rw [hX1] at hz1
    have := hK w' X0 q0 h0 X1 q1 h1 hI.below hge0 hz0 hq0 hF0 hge1 hz1 hq1 hF1
    have hlay : layAll #[{ dst := some l0, op := Op.load 24 (Operand.tmp s0), type := 24, pos := p0, after := #[], guard := none }, { dst := some c0, op := Op.call { callee := Callee.value (Operand.func 22), args := #[Operand.tmp l0], argTypes := #[24] }, type := 30, pos := p1, after := #[{ on := 0, ground := Ground.data }], guard := none }, { dst := some l1, op := Op.load 24 (Operand.tmp s1), type := 24, pos := p2, after := #[], guard := none }, { dst := some c1, op := Op.call { callee := Callee.value (Operand.func 22), args := #[Operand.tmp l1], argTypes := #[24] }, type := 30, pos := p3, after := #[{ on := 2, ground := Ground.data }, { on := 1, ground := Ground.chain }], guard := none }, { dst := some b0, op := Op.alloc 30, type := 0, pos := p4, after := #[], guard := none }, { dst := some b1, op := Op.alloc 30, type := 0, pos := p5, after := #[], guard := none }, { dst := none, op := Op.store 30 (Operand.tmp b0) (Operand.tmp c0), type := 0, pos := p6, after := #[{ on := 4, ground := Ground.data }, { on := 1, ground := Ground.data }, { on := 3, ground := Ground.chain }, { on := 0, ground := Ground.phase }, { on := 1, ground := Ground.phase }, { on := 2, ground := Ground.textOnly Departure.lateStores }, { on := 3, ground := Ground.textOnly Departure.lateStoresUnsure }, { on := 4, ground := Ground.phase }, { on := 5, ground := Ground.phase }], guard := none }, { dst := none, op := Op.store 30 (Operand.tmp b1) (Operand.tmp c1), type := 0, pos := p7, after := #[{ on := 5, ground := Ground.data }, { on := 3, ground := Ground.data }, { on := 6, ground := Ground.chain }, { on := 0, ground := Ground.phase }, { on := 1, ground := Ground.phase }, { on := 2, ground := Ground.phase }, { on := 3, ground := Ground.phase }, { on := 4, ground := Ground.phase }, { on := 5, ground := Ground.phase }, { on := 6, ground := Ground.phase }], guard := none }] v a.tmps = ((((((a.tmps.setIfInBounds l0 (.agg #[.int .i64 x0.f0, .slice A0 x0.f1.length k0])).setIfInBounds c0 (.agg #[.int .i64 x0.f0, .slice X0 x0.f1.length q0])).setIfInBounds l1 (.agg #[.int .i64 x1.f0, .slice A1 x1.f1.length k1])).setIfInBounds c1 (.agg #[.int .i64 x1.f0, .slice X1 x1.f1.length q1])).setIfInBounds b0 (.pointer (some ⟨h0, 0, none⟩))).setIfInBounds b1 (.pointer (some ⟨h1, 0, none⟩))) := by
      have hrange : (List.range 8) = [0, 1, 2, 3, 4, 5, 6, 7] := by decide
      unfold layAll
      simp only [List.size_toArray, List.length_cons, List.length_nil, Nat.reduceAdd, hrange, List.foldl_cons, List.foldl_nil, dstOf, List.getElem?_toArray, List.getElem?_cons_zero, List.getElem?_cons_succ, Option.bind_some, hg0, hX0, hl0, hg1, hX1, hl1]
    rw [hlay]
    exact this
end Go.Proofs.Ytpfddihcikiofaa.P
end
section
namespace Go.Proofs.Ytpfddihcikiofaa.P
open Go.RowKit Go.Proofs.YtpfddihcikiofaaW.PrintWords Go.Proofs.YtpfddihcikiofaaW.PrintLast Go.Proofs.YtpfddihcikiofaaW.PrintMore
set_option linter.unusedVariables false
set_option linter.unusedSimpArgs false
def layL : List (Option Tmp) → Nat → (Nat → Value) → Array Value → Array Value
  | [], _, _, T => T
  | some t :: r, i, v, T => layL r (i + 1) v (T.setIfInBounds t (v i))
  | none :: r, i, v, T => layL r (i + 1) v T
theorem layFirst_layL {ops : Array Oper} {m : Nat} {l : List (Option Tmp)} (h : (List.range m).map (dstOf ops) = l) (v : Nat → Value) (T : Array Value) : layFirst ops m v T = layL l 0 v T := by
  subst h
  have key : ∀ (n k : Nat) (T : Array Value), (List.range' k n).foldl (fun T i => match dstOf ops i with | some t => T.setIfInBounds t (v i) | none => T) T = layL ((List.range' k n).map (dstOf ops)) k v T := by
    intro n
    induction n with
    | zero => intro k T; rfl
    | succ n ih =>
      intro k T
      rw [List.range'_succ, List.foldl_cons, List.map_cons, ih]
      cases dstOf ops k <;> rfl
  unfold layFirst
  rw [List.range_eq_range']
  exact key m 0 T
theorem DetAll.fin {P : Program} {ops : Array Oper} {Q : Exit → Act → World → Prop} {base : Array Value} {ds : List Deferred} {w0 : World} {m i : Nat} {ps : List Told} (l : List (Option Tmp)) (hd : (List.range m).map (dstOf ops) = l) (hl : ps.length = m) (hi : i = m)
    (h : ∀ v w', Below w0.heap.size w0 w' → (∀ (j : Nat) (p : Told), ps[j]? = some p → p (v j) w') → wpAny P .any ops Q (ops.size - m) (firstDone ops.size m) { tmps := layL l 0 v base, defers := ds } w') : DetAll P ops Q base ds w0 m i ps :=
  DetAll.nil hl hi (fun v w' hb hv => by rw [layFirst_layL hd]; exact h v w' hb hv)
theorem DetAll.done {P : Program} {ops : Array Oper} {Q : Exit → Act → World → Prop} {base : Array Value} {ds : List Deferred} {w0 : World} {m i : Nat} {ps : List Told} (l : List (Option Tmp)) (hd : (List.range m).map (dstOf ops) = l) (hl : ps.length = m) (hi : i = m)
    (hr : Region.ready .any ops (firstDone ops.size m) = []) (h : ∀ v w', Below w0.heap.size w0 w' → (∀ (j : Nat) (p : Told), ps[j]? = some p → p (v j) w') → Q .normal { tmps := layL l 0 v base, defers := ds } w') : DetAll P ops Q base ds w0 m i ps :=
  DetAll.fin l hd hl hi (fun v w' hb hv => wpAny_done hr (h v w' hb hv) _)
def RowTold {α : Type} (d : Kd α) (l : List α) : Told := fun u w => ∃ A c, u = .slice A l.length c ∧ l.length ≤ c ∧ d.C w A l.length l
theorem RowTold.grows {α : Type} (d : Kd α) (l : List α) : (RowTold d l).grows := fun u w w' h hb => by
  obtain ⟨A, c, h1, h2, h3⟩ := h
  exact ⟨A, c, h1, h2, Kd.C_below h3 hb⟩
theorem RowTold.of {α : Type} {d : Kd α} {e b : Nat} {ok : Nat → Prop} {l : List α} {w : World} {v : Value} (h : d.R e w b ok v l) : RowTold d l v w := by
  obtain ⟨A, c, rfl⟩ := Kd.R_slice h
  have h2 := Kd.R_reads' h
  exact ⟨A, c, rfl, h2.2.1, h2.2.2⟩
def TermTold (d : Kd S30) (f : Int) (l : List S30) : Told := fun u w => ∃ A c, u = .agg #[.int .i64 f, .slice A l.length c] ∧ l.length ≤ c ∧ d.C w A l.length l
theorem TermTold.grows (d : Kd S30) (f : Int) (l : List S30) : (TermTold d f l).grows := fun u w w' h hb => by
  obtain ⟨A, c, h1, h2, h3⟩ := h
  exact ⟨A, c, h1, h2, Kd.C_below h3 hb⟩
def BlockTold (N : Nat) (f : Nat → Value) (cs : Array Value) (t : TypeId) : Told := fun u w => ∃ g, u = f g ∧ N ≤ g ∧ w.heap[g]? = some (.cells cs t (0, 0))
theorem BlockTold.grows (N : Nat) (f : Nat → Value) (cs : Array Value) (t : TypeId) : (BlockTold N f cs t).grows := fun u w w' h hb => by
  obtain ⟨g, h1, h2, h3⟩ := h
  exact ⟨g, h1, h2, blk_below h3 hb⟩
theorem wanted_of {o : Oper} {ops : Array Oper} {T : Array Value} {j : Nat} {t : Tmp} {b want : Bool} (hg : o.guard = some (j, want)) (hd : dstOf ops j = some t) (he : T.getD t undef = .bool b) : Region.wanted o (yielded ops T) = (b == want) := by
  have h1 : T[t]? = some (.bool b) := by
    rw [Array.getD_eq_getD_getElem?] at he
    cases hx : T[t]? with
    | none => rw [hx] at he; cases he
    | some x => rw [hx] at he; simp at he; rw [he]
  unfold Region.wanted
  rw [hg]
  simp only [yielded]
  rw [show ((ops[j]?).bind (·.dst)) = some t from hd]
  simp only [Option.bind_some, h1]
  cases b <;> cases want <;> rfl
theorem wanted_none {o : Oper} (y : Nat → Option Bool) (hg : o.guard = none) : Region.wanted o y = true := by
  unfold Region.wanted
  rw [hg]
theorem wanted_yes {o : Oper} {ops : Array Oper} {T : Array Value} (j : Nat) (t : Tmp) (b : Bool) (hg : o.guard = some (j, b)) (hd : dstOf ops j = some t) (he : T.getD t undef = .bool b) : Region.wanted o (yielded ops T) = true := (wanted_of hg hd he).trans (by cases b <;> rfl)
def DetR (P : Program) (ops : Array Oper) (Q : Exit → Act → World → Prop) (base : Array Value) (ds : List Deferred) (w0 : World) (m i : Nat) (rs : List Told) : Prop := rs.length = i → DetAll P ops Q base ds w0 m i rs.reverse
theorem rev_at {rs : List Told} {i j : Nat} {p : Told} (hl : rs.length = i) (hj : j < i) (h : rs[i - 1 - j]? = some p) : rs.reverse[j]? = some p := by
  rw [List.getElem?_reverse (by omega), hl]
  exact h
theorem DetR.cons {P : Program} {ops : Array Oper} {Q : Exit → Act → World → Prop} {base : Array Value} {ds : List Deferred} {w0 : World} {m i : Nat} {rs : List Told} {o : Oper} (p : Told) (ho : ops[i]? = some o) (him : i < m) (hg : p.grows)
    (h : ∀ (T : Array Value) (w : World), Below w0.heap.size w0 w →
      (∀ j t p, j < i → (o.after.any fun e => Region.binds .any e && decide (e.on = j)) = true → dstOf ops j = some t → rs[i - 1 - j]? = some p → p (T.getD t undef) w) →
      (∀ t, ((List.range ops.size).all fun j => decide (dstOf ops j ≠ some t)) = true → T.getD t undef = base.getD t undef) →
      ∀ K : Act → World → Prop, (∀ u w2, Below w.heap.size w w2 → p u w2 → K ({ tmps := T, defers := ds : Act }.put o.dst u) w2) →
        if Region.wanted o (yielded ops T) = true then Oper.wp P o { tmps := T, defers := ds } w K Q else K ({ tmps := T, defers := ds : Act }.put o.dst undef) w)
    (hs : DetR P ops Q base ds w0 m (i + 1) (p :: rs)) : DetR P ops Q base ds w0 m i rs := fun hl => by
  refine DetAll.cons (p := p) ho (by rw [List.length_reverse, hl]) him hg (fun T w hb hd hB K hK => ?_) (by have := hs (by rw [List.length_cons, hl]); rwa [List.reverse_cons] at this)
  exact h T w hb (fun j t p hj h1 h2 h3 => hd j t p h1 h2 (rev_at hl hj h3)) hB K hK
theorem DetR.is {P : Program} {ops : Array Oper} {Q : Exit → Act → World → Prop} {base : Array Value} {ds : List Deferred} {w0 : World} {m i : Nat} {rs : List Told} {o : Oper} {u : Value} (ho : ops[i]? = some o) (him : i < m)
    (h : ∀ (T : Array Value) (w : World), Below w0.heap.size w0 w →
      (∀ j t p, j < i → (o.after.any fun e => Region.binds .any e && decide (e.on = j)) = true → dstOf ops j = some t → rs[i - 1 - j]? = some p → p (T.getD t undef) w) →
      (∀ t, ((List.range ops.size).all fun j => decide (dstOf ops j ≠ some t)) = true → T.getD t undef = base.getD t undef) →
      ∀ K : Act → World → Prop, (∀ w2, Below w.heap.size w w2 → K ({ tmps := T, defers := ds : Act }.put o.dst u) w2) →
        if Region.wanted o (yielded ops T) = true then Oper.wp P o { tmps := T, defers := ds } w K Q else K ({ tmps := T, defers := ds : Act }.put o.dst undef) w)
    (hs : DetR P ops Q base ds w0 m (i + 1) (Told.is u :: rs)) : DetR P ops Q base ds w0 m i rs :=
  DetR.cons (Told.is u) ho him (Told.is_grows u) (fun T w hb hd hB K hK => h T w hb hd hB K (fun w2 h2 => hK u w2 h2 rfl)) hs
theorem DetR.fin {P : Program} {ops : Array Oper} {Q : Exit → Act → World → Prop} {base : Array Value} {ds : List Deferred} {w0 : World} {m i : Nat} {rs : List Told} (l : List (Option Tmp)) (hd : (List.range m).map (dstOf ops) = l) (hi : i = m)
    (h : ∀ v w', Below w0.heap.size w0 w' → (∀ (j : Nat) (p : Told), j < m → rs[m - 1 - j]? = some p → p (v j) w') → wpAny P .any ops Q (ops.size - m) (firstDone ops.size m) { tmps := layL l 0 v base, defers := ds } w') : DetR P ops Q base ds w0 m i rs := fun hl =>
  DetAll.fin l hd (by rw [List.length_reverse]; omega) hi (fun v w' hb hv => h v w' hb (fun j p hj h1 => hv j p (rev_at (by omega) hj h1)))
theorem DetR.done {P : Program} {ops : Array Oper} {Q : Exit → Act → World → Prop} {base : Array Value} {ds : List Deferred} {w0 : World} {m i : Nat} {rs : List Told} (l : List (Option Tmp)) (hd : (List.range m).map (dstOf ops) = l) (hi : i = m)
    (hr : Region.ready .any ops (firstDone ops.size m) = []) (h : ∀ v w', Below w0.heap.size w0 w' → (∀ (j : Nat) (p : Told), j < m → rs[m - 1 - j]? = some p → p (v j) w') → Q .normal { tmps := layL l 0 v base, defers := ds } w') : DetR P ops Q base ds w0 m i rs :=
  DetR.fin l hd hi (fun v w' hb hv => wpAny_done hr (h v w' hb hv) _)
theorem region_detR {P : Program} {ops : Array Oper} {Q : Exit → Act → World → Prop} {id : Nat} {a : Act} {w : World} (m : Nat) (hm : P.follows .mixedOrders = true) (hr : regionOk ops a.tmps.size = true) (hw : waitsAll ops m = true) (h : DetR P ops Q a.tmps a.defers w m 0 []) : (Code.region id ops true).wp P Q a w :=
  region_det m hm hr hw (h rfl)
end Go.Proofs.Ytpfddihcikiofaa.P
end
section
namespace Go.Proofs.Ytpfddihcikiofaa.P
open Go.RowKit Go.Proofs.YtpfddihcikiofaaW.PrintWords Go.Proofs.YtpfddihcikiofaaW.PrintLast Go.Proofs.YtpfddihcikiofaaW.PrintMore
set_option linter.unusedVariables false
set_option linter.unusedSimpArgs false
attribute [local go_sem] max2_int min2_int max_two min_two
set_option maxHeartbeats 4000000 in
set_option maxRecDepth 100000 in
theorem TermCounts_r12 {id : Nat} {a : Act} {w : World} {Q : Exit → Act → World → Prop} {Az Ap Aq : Option Addr} {nz np nq cz cp cq gz ga gb : Nat} {zf zl xf xl yf yl : Value} {tz ta tb : Int}
    (hr : regionOk #[{ dst := some 38, op := Op.move (Operand.tmp 11), type := 25, pos := "law.go:206", after := #[], guard := none }, { dst := some 39, op := Op.call { callee := Callee.builtin Builtin.len, args := #[Operand.tmp 38], argTypes := #[25] }, type := 3, pos := "law.go:206", after := #[{ on := 0, ground := Ground.data }], guard := none }, { dst := some 40, op := Op.move (Operand.tmp 12), type := 25, pos := "law.go:206", after := #[], guard := none }, { dst := some 41, op := Op.call { callee := Callee.builtin Builtin.len, args := #[Operand.tmp 40], argTypes := #[25] }, type := 3, pos := "law.go:206", after := #[{ on := 2, ground := Ground.data }], guard := none }, { dst := some 42, op := Op.move (Operand.tmp 13), type := 25, pos := "law.go:206", after := #[], guard := none }, { dst := some 43, op := Op.call { callee := Callee.builtin Builtin.len, args := #[Operand.tmp 42], argTypes := #[25] }, type := 3, pos := "law.go:206", after := #[{ on := 4, ground := Ground.data }], guard := none }, { dst := some 44, op := Op.binOp BinOp.add 3 (Operand.tmp 41) (Operand.tmp 43) 3, type := 3, pos := "law.go:206", after := #[{ on := 3, ground := Ground.data }, { on := 5, ground := Ground.data }], guard := none }, { dst := some 45, op := Op.binOp BinOp.gtr 3 (Operand.tmp 39) (Operand.tmp 44) 3, type := 4, pos := "law.go:206", after := #[{ on := 1, ground := Ground.data }, { on := 6, ground := Ground.data }], guard := none }, { dst := some 46, op := Op.move (Operand.tmp 45), type := 4, pos := "law.go:206", after := #[{ on := 7, ground := Ground.data }], guard := none }, { dst := some 47, op := Op.move (Operand.tmp 11), type := 25, pos := "law.go:206", after := #[{ on := 8, ground := Ground.guard }], guard := some (8, false) }, { dst := some 48, op := Op.call { callee := Callee.builtin Builtin.len, args := #[Operand.tmp 47], argTypes := #[25] }, type := 3, pos := "law.go:206", after := #[{ on := 9, ground := Ground.data }, { on := 8, ground := Ground.guard }], guard := some (8, false) }, { dst := some 49, op := Op.move (Operand.tmp 12), type := 25, pos := "law.go:206", after := #[{ on := 8, ground := Ground.guard }], guard := some (8, false) }, { dst := some 50, op := Op.call { callee := Callee.builtin Builtin.len, args := #[Operand.tmp 49], argTypes := #[25] }, type := 3, pos := "law.go:206", after := #[{ on := 11, ground := Ground.data }, { on := 8, ground := Ground.guard }], guard := some (8, false) }, { dst := some 51, op := Op.binOp BinOp.lss 3 (Operand.tmp 48) (Operand.tmp 50) 3, type := 4, pos := "law.go:206", after := #[{ on := 10, ground := Ground.data }, { on := 12, ground := Ground.data }, { on := 8, ground := Ground.guard }], guard := some (8, false) }, { dst := some 52, op := Op.pick (Operand.tmp 46) (Operand.const (Value.bool true)) (Operand.tmp 51), type := 4, pos := "law.go:206", after := #[{ on := 8, ground := Ground.data }, { on := 13, ground := Ground.data }], guard := none }, { dst := some 53, op := Op.move (Operand.tmp 52), type := 4, pos := "law.go:206", after := #[{ on := 14, ground := Ground.data }, { on := 8, ground := Ground.chain }], guard := none }, { dst := some 54, op := Op.move (Operand.tmp 11), type := 25, pos := "law.go:206", after := #[{ on := 15, ground := Ground.guard }], guard := some (15, false) }, { dst := some 55, op := Op.call { callee := Callee.builtin Builtin.len, args := #[Operand.tmp 54], argTypes := #[25] }, type := 3, pos := "law.go:206", after := #[{ on := 16, ground := Ground.data }, { on := 15, ground := Ground.guard }], guard := some (15, false) }, { dst := some 56, op := Op.move (Operand.tmp 13), type := 25, pos := "law.go:206", after := #[{ on := 15, ground := Ground.guard }], guard := some (15, false) }, { dst := some 57, op := Op.call { callee := Callee.builtin Builtin.len, args := #[Operand.tmp 56], argTypes := #[25] }, type := 3, pos := "law.go:206", after := #[{ on := 18, ground := Ground.data }, { on := 15, ground := Ground.guard }], guard := some (15, false) }, { dst := some 58, op := Op.binOp BinOp.lss 3 (Operand.tmp 55) (Operand.tmp 57) 3, type := 4, pos := "law.go:206", after := #[{ on := 17, ground := Ground.data }, { on := 19, ground := Ground.data }, { on := 15, ground := Ground.guard }], guard := some (15, false) }, { dst := some 59, op := Op.pick (Operand.tmp 53) (Operand.const (Value.bool true)) (Operand.tmp 58), type := 4, pos := "law.go:206", after := #[{ on := 15, ground := Ground.data }, { on := 20, ground := Ground.data }], guard := none }, { dst := some 60, op := Op.move (Operand.tmp 59), type := 4, pos := "law.go:206", after := #[{ on := 21, ground := Ground.data }, { on := 15, ground := Ground.chain }], guard := none }, { dst := some 61, op := Op.load 30 (Operand.tmp 9), type := 30, pos := "law.go:206", after := #[{ on := 22, ground := Ground.guard }], guard := some (22, false) }, { dst := some 62, op := Op.call { callee := Callee.value (Operand.func 33), args := #[Operand.tmp 61], argTypes := #[30] }, type := 3, pos := "law.go:206", after := #[{ on := 23, ground := Ground.data }, { on := 22, ground := Ground.chain }, { on := 22, ground := Ground.guard }], guard := some (22, false) }, { dst := some 63, op := Op.load 30 (Operand.tmp 7), type := 30, pos := "law.go:206", after := #[{ on := 22, ground := Ground.guard }], guard := some (22, false) }, { dst := some 64, op := Op.call { callee := Callee.value (Operand.func 33), args := #[Operand.tmp 63], argTypes := #[30] }, type := 3, pos := "law.go:206", after := #[{ on := 25, ground := Ground.data }, { on := 24, ground := Ground.chain }, { on := 22, ground := Ground.guard }], guard := some (22, false) }, { dst := some 65, op := Op.load 30 (Operand.tmp 8), type := 30, pos := "law.go:206", after := #[{ on := 22, ground := Ground.guard }], guard := some (22, false) }, { dst := some 66, op := Op.call { callee := Callee.value (Operand.func 33), args := #[Operand.tmp 65], argTypes := #[30] }, type := 3, pos := "law.go:206", after := #[{ on := 27, ground := Ground.data }, { on := 26, ground := Ground.chain }, { on := 22, ground := Ground.guard }], guard := some (22, false) }, { dst := some 67, op := Op.call { callee := Callee.builtin Builtin.max, args := #[Operand.tmp 64, Operand.tmp 66], argTypes := #[3, 3] }, type := 3, pos := "law.go:206", after := #[{ on := 26, ground := Ground.data }, { on := 28, ground := Ground.data }, { on := 22, ground := Ground.guard }], guard := some (22, false) }, { dst := some 68, op := Op.binOp BinOp.neq 3 (Operand.tmp 62) (Operand.tmp 67) 3, type := 4, pos := "law.go:206", after := #[{ on := 24, ground := Ground.data }, { on := 29, ground := Ground.data }, { on := 22, ground := Ground.guard }], guard := some (22, false) }, { dst := some 69, op := Op.pick (Operand.tmp 60) (Operand.const (Value.bool true)) (Operand.tmp 68), type := 4, pos := "law.go:206", after := #[{ on := 22, ground := Ground.data }, { on := 30, ground := Ground.data }], guard := none }] a.tmps.size = true)
    (hT11 : a.tmps.getD 11 undef = .slice Az nz cz)
    (hT12 : a.tmps.getD 12 undef = .slice Ap np cp)
    (hT13 : a.tmps.getD 13 undef = .slice Aq nq cq)
    (hT9 : a.tmps.getD 9 undef = .pointer (some ⟨gz, 0, none⟩)) (hX9 : w.heap[gz]? = some (.cells #[zf, zl] 30 (0, 0)))
    (hT7 : a.tmps.getD 7 undef = .pointer (some ⟨ga, 0, none⟩)) (hX7 : w.heap[ga]? = some (.cells #[xf, xl] 30 (0, 0)))
    (hT8 : a.tmps.getD 8 undef = .pointer (some ⟨gb, 0, none⟩)) (hX8 : w.heap[gb]? = some (.cells #[yf, yl] 30 (0, 0)))
    (hF24 : ∀ w1, Below w.heap.size w w1 → Calls Try.prog 33 #[.agg #[zf, zl]] w1 fun e w2 => e = .returned (.int .i64 tz) ∧ Below w1.heap.size w1 w2)
    (hF26 : ∀ w1, Below w.heap.size w w1 → Calls Try.prog 33 #[.agg #[xf, xl]] w1 fun e w2 => e = .returned (.int .i64 ta) ∧ Below w1.heap.size w1 w2)
    (hF28 : ∀ w1, Below w.heap.size w w1 → Calls Try.prog 33 #[.agg #[yf, yl]] w1 fun e w2 => e = .returned (.int .i64 tb) ∧ Below w1.heap.size w1 w2)
    (h1 : nz ≤ np + nq) (h2 : np ≤ nz) (h3 : nq ≤ nz) (h4 : nz ≤ 1000) (h5 : tz = if ta < tb then tb else ta)
    (hK : ∀ v w', Below w.heap.size w w' → v 31 = .bool false → Q .normal { tmps := layL [some 38, some 39, some 40, some 41, some 42, some 43, some 44, some 45, some 46, some 47, some 48, some 49, some 50, some 51, some 52, some 53, some 54, some 55, some 56, some 57, some 58, some 59, some 60, some 61, some 62, some 63, some 64, some 65, some 66, some 67, some 68, some 69] 0 v a.tmps, defers := a.defers } w') :
    (Code.region id #[{ dst := some 38, op := Op.move (Operand.tmp 11), type := 25, pos := "law.go:206", after := #[], guard := none }, { dst := some 39, op := Op.call { callee := Callee.builtin Builtin.len, args := #[Operand.tmp 38], argTypes := #[25] }, type := 3, pos := "law.go:206", after := #[{ on := 0, ground := Ground.data }], guard := none }, { dst := some 40, op := Op.move (Operand.tmp 12), type := 25, pos := "law.go:206", after := #[], guard := none }, { dst := some 41, op := Op.call { callee := Callee.builtin Builtin.len, args := #[Operand.tmp 40], argTypes := #[25] }, type := 3, pos := "law.go:206", after := #[{ on := 2, ground := Ground.data }], guard := none }, { dst := some 42, op := Op.move (Operand.tmp 13), type := 25, pos := "law.go:206", after := #[], guard := none }, { dst := some 43, op := Op.call { callee := Callee.builtin Builtin.len, args := #[Operand.tmp 42], argTypes := #[25] }, type := 3, pos := "law.go:206", after := #[{ on := 4, ground := Ground.data }], guard := none }, { dst := some 44, op := Op.binOp BinOp.add 3 (Operand.tmp 41) (Operand.tmp 43) 3, type := 3, pos := "law.go:206", after := #[{ on := 3, ground := Ground.data }, { on := 5, ground := Ground.data }], guard := none }, { dst := some 45, op := Op.binOp BinOp.gtr 3 (Operand.tmp 39) (Operand.tmp 44) 3, type := 4, pos := "law.go:206", after := #[{ on := 1, ground := Ground.data }, { on := 6, ground := Ground.data }], guard := none }, { dst := some 46, op := Op.move (Operand.tmp 45), type := 4, pos := "law.go:206", after := #[{ on := 7, ground := Ground.data }], guard := none }, { dst := some 47, op := Op.move (Operand.tmp 11), type := 25, pos := "law.go:206", after := #[{ on := 8, ground := Ground.guard }], guard := some (8, false) }, { dst := some 48, op := Op.call { callee := Callee.builtin Builtin.len, args := #[Operand.tmp 47], argTypes := #[25] }, type := 3, pos := "law.go:206", after := #[{ on := 9, ground := Ground.data }, { on := 8, ground := Ground.guard }], guard := some (8, false) }, { dst := some 49, op := Op.move (Operand.tmp 12), type := 25, pos := "law.go:206", after := #[{ on := 8, ground := Ground.guard }], guard := some (8, false) }, { dst := some 50, op := Op.call { callee := Callee.builtin Builtin.len, args := #[Operand.tmp 49], argTypes := #[25] }, type := 3, pos := "law.go:206", after := #[{ on := 11, ground := Ground.data }, { on := 8, ground := Ground.guard }], guard := some (8, false) }, { dst := some 51, op := Op.binOp BinOp.lss 3 (Operand.tmp 48) (Operand.tmp 50) 3, type := 4, pos := "law.go:206", after := #[{ on := 10, ground := Ground.data }, { on := 12, ground := Ground.data }, { on := 8, ground := Ground.guard }], guard := some (8, false) }, { dst := some 52, op := Op.pick (Operand.tmp 46) (Operand.const (Value.bool true)) (Operand.tmp 51), type := 4, pos := "law.go:206", after := #[{ on := 8, ground := Ground.data }, { on := 13, ground := Ground.data }], guard := none }, { dst := some 53, op := Op.move (Operand.tmp 52), type := 4, pos := "law.go:206", after := #[{ on := 14, ground := Ground.data }, { on := 8, ground := Ground.chain }], guard := none }, { dst := some 54, op := Op.move (Operand.tmp 11), type := 25, pos := "law.go:206", after := #[{ on := 15, ground := Ground.guard }], guard := some (15, false) }, { dst := some 55, op := Op.call { callee := Callee.builtin Builtin.len, args := #[Operand.tmp 54], argTypes := #[25] }, type := 3, pos := "law.go:206", after := #[{ on := 16, ground := Ground.data }, { on := 15, ground := Ground.guard }], guard := some (15, false) }, { dst := some 56, op := Op.move (Operand.tmp 13), type := 25, pos := "law.go:206", after := #[{ on := 15, ground := Ground.guard }], guard := some (15, false) }, { dst := some 57, op := Op.call { callee := Callee.builtin Builtin.len, args := #[Operand.tmp 56], argTypes := #[25] }, type := 3, pos := "law.go:206", after := #[{ on := 18, ground := Ground.data }, { on := 15, ground := Ground.guard }], guard := some (15, false) }, { dst := some 58, op := Op.binOp BinOp.lss 3 (Operand.tmp 55) (Operand.tmp 57) 3, type := 4, pos := "law.go:206", after := #[{ on := 17, ground := Ground.data }, { on := 19, ground := Ground.data }, { on := 15, ground := Ground.guard }], guard := some (15, false) }, { dst := some 59, op := Op.pick (Operand.tmp 53) (Operand.const (Value.bool true)) (Operand.tmp 58), type := 4, pos := "law.go:206", after := #[{ on := 15, ground := Ground.data }, { on := 20, ground := Ground.data }], guard := none }, { dst := some 60, op := Op.move (Operand.tmp 59), type := 4, pos := "law.go:206", after := #[{ on := 21, ground := Ground.data }, { on := 15, ground := Ground.chain }], guard := none }, { dst := some 61, op := Op.load 30 (Operand.tmp 9), type := 30, pos := "law.go:206", after := #[{ on := 22, ground := Ground.guard }], guard := some (22, false) }, { dst := some 62, op := Op.call { callee := Callee.value (Operand.func 33), args := #[Operand.tmp 61], argTypes := #[30] }, type := 3, pos := "law.go:206", after := #[{ on := 23, ground := Ground.data }, { on := 22, ground := Ground.chain }, { on := 22, ground := Ground.guard }], guard := some (22, false) }, { dst := some 63, op := Op.load 30 (Operand.tmp 7), type := 30, pos := "law.go:206", after := #[{ on := 22, ground := Ground.guard }], guard := some (22, false) }, { dst := some 64, op := Op.call { callee := Callee.value (Operand.func 33), args := #[Operand.tmp 63], argTypes := #[30] }, type := 3, pos := "law.go:206", after := #[{ on := 25, ground := Ground.data }, { on := 24, ground := Ground.chain }, { on := 22, ground := Ground.guard }], guard := some (22, false) }, { dst := some 65, op := Op.load 30 (Operand.tmp 8), type := 30, pos := "law.go:206", after := #[{ on := 22, ground := Ground.guard }], guard := some (22, false) }, { dst := some 66, op := Op.call { callee := Callee.value (Operand.func 33), args := #[Operand.tmp 65], argTypes := #[30] }, type := 3, pos := "law.go:206", after := #[{ on := 27, ground := Ground.data }, { on := 26, ground := Ground.chain }, { on := 22, ground := Ground.guard }], guard := some (22, false) }, { dst := some 67, op := Op.call { callee := Callee.builtin Builtin.max, args := #[Operand.tmp 64, Operand.tmp 66], argTypes := #[3, 3] }, type := 3, pos := "law.go:206", after := #[{ on := 26, ground := Ground.data }, { on := 28, ground := Ground.data }, { on := 22, ground := Ground.guard }], guard := some (22, false) }, { dst := some 68, op := Op.binOp BinOp.neq 3 (Operand.tmp 62) (Operand.tmp 67) 3, type := 4, pos := "law.go:206", after := #[{ on := 24, ground := Ground.data }, { on := 29, ground := Ground.data }, { on := 22, ground := Ground.guard }], guard := some (22, false) }, { dst := some 69, op := Op.pick (Operand.tmp 60) (Operand.const (Value.bool true)) (Operand.tmp 68), type := 4, pos := "law.go:206", after := #[{ on := 22, ground := Ground.data }, { on := 30, ground := Ground.data }], guard := none }] true).wp Try.prog Q a w := by
  have hmx : Try.prog.follows .mixedOrders = true := by kernel_rfl
  refine region_detR 32 hmx hr (by kernel_rfl) ?_
  refine DetR.is (o := { dst := some 38, op := Op.move (Operand.tmp 11), type := 25, pos := "law.go:206", after := #[], guard := none }) (u := ?ux1) rfl (by decide) (fun T w' hb hd hB K hK => ?sx1) ?rx1
  case sx1 =>
    have e11 := (hB 11 (by kernel_rfl)).trans hT11
    rw [if_pos (wanted_none _ rfl)]
    clear hd hB
    go_simp
    exact hK _ (Below.refl _ _)
  refine DetR.is (o := { dst := some 39, op := Op.call { callee := Callee.builtin Builtin.len, args := #[Operand.tmp 38], argTypes := #[25] }, type := 3, pos := "law.go:206", after := #[{ on := 0, ground := Ground.data }], guard := none }) (u := ?ux2) rfl (by decide) (fun T w' hb hd hB K hK => ?sx2) ?rx2
  case sx2 =>
    have e38 := hd 0 38 _ (by decide) (by kernel_rfl) rfl rfl
    replace e38 : T.getD 38 undef = _ := e38
    rw [if_pos (wanted_none _ rfl)]
    clear hd hB
    go_simp
    exact hK _ (Below.refl _ _)
  refine DetR.is (o := { dst := some 40, op := Op.move (Operand.tmp 12), type := 25, pos := "law.go:206", after := #[], guard := none }) (u := ?ux3) rfl (by decide) (fun T w' hb hd hB K hK => ?sx3) ?rx3
  case sx3 =>
    have e12 := (hB 12 (by kernel_rfl)).trans hT12
    rw [if_pos (wanted_none _ rfl)]
    clear hd hB
    go_simp
    exact hK _ (Below.refl _ _)
  refine DetR.is (o := { dst := some 41, op := Op.call { callee := Callee.builtin Builtin.len, args := #[Operand.tmp 40], argTypes := #[25] }, type := 3, pos := "law.go:206", after := #[{ on := 2, ground := Ground.data }], guard := none }) (u := ?ux4) rfl (by decide) (fun T w' hb hd hB K hK => ?sx4) ?rx4
  case sx4 =>
    have e40 := hd 2 40 _ (by decide) (by kernel_rfl) rfl rfl
    replace e40 : T.getD 40 undef = _ := e40
    rw [if_pos (wanted_none _ rfl)]
    clear hd hB
    go_simp
    exact hK _ (Below.refl _ _)
  refine DetR.is (o := { dst := some 42, op := Op.move (Operand.tmp 13), type := 25, pos := "law.go:206", after := #[], guard := none }) (u := ?ux5) rfl (by decide) (fun T w' hb hd hB K hK => ?sx5) ?rx5
  case sx5 =>
    have e13 := (hB 13 (by kernel_rfl)).trans hT13
    rw [if_pos (wanted_none _ rfl)]
    clear hd hB
    go_simp
    exact hK _ (Below.refl _ _)
  refine DetR.is (o := { dst := some 43, op := Op.call { callee := Callee.builtin Builtin.len, args := #[Operand.tmp 42], argTypes := #[25] }, type := 3, pos := "law.go:206", after := #[{ on := 4, ground := Ground.data }], guard := none }) (u := ?ux6) rfl (by decide) (fun T w' hb hd hB K hK => ?sx6) ?rx6
  case sx6 =>
    have e42 := hd 4 42 _ (by decide) (by kernel_rfl) rfl rfl
    replace e42 : T.getD 42 undef = _ := e42
    rw [if_pos (wanted_none _ rfl)]
    clear hd hB
    go_simp
    exact hK _ (Below.refl _ _)
  refine DetR.is (o := { dst := some 44, op := Op.binOp BinOp.add 3 (Operand.tmp 41) (Operand.tmp 43) 3, type := 3, pos := "law.go:206", after := #[{ on := 3, ground := Ground.data }, { on := 5, ground := Ground.data }], guard := none }) (u := ?ux7) rfl (by decide) (fun T w' hb hd hB K hK => ?sx7) ?rx7
  case sx7 =>
    have e41 := hd 3 41 _ (by decide) (by kernel_rfl) rfl rfl
    replace e41 : T.getD 41 undef = _ := e41
    have e43 := hd 5 43 _ (by decide) (by kernel_rfl) rfl rfl
    replace e43 : T.getD 43 undef = _ := e43
    rw [if_pos (wanted_none _ rfl)]
    clear hd hB
    go_simp
    exact hK _ (Below.refl _ _)
  refine DetR.is (o := { dst := some 45, op := Op.binOp BinOp.gtr 3 (Operand.tmp 39) (Operand.tmp 44) 3, type := 4, pos := "law.go:206", after := #[{ on := 1, ground := Ground.data }, { on := 6, ground := Ground.data }], guard := none }) (u := .bool false) rfl (by decide) (fun T w' hb hd hB K hK => ?sx8) ?rx8
  case sx8 =>
    have e39 := hd 1 39 _ (by decide) (by kernel_rfl) rfl rfl
    replace e39 : T.getD 39 undef = _ := e39
    have e44 := hd 6 44 _ (by decide) (by kernel_rfl) rfl rfl
    replace e44 : T.getD 44 undef = _ := e44
    rw [if_pos (wanted_none _ rfl)]
    clear hd hB
    go_simp
    have hq : decide (IntKind.i64.wrap ((np : Int) + (nq : Int)) < (nz : Int)) = false := decide_eq_false (by rw [i64_w, w64 _ (by omega)]; omega)
    rw [hq]
    exact hK _ (Below.refl _ _)
  refine DetR.is (o := { dst := some 46, op := Op.move (Operand.tmp 45), type := 4, pos := "law.go:206", after := #[{ on := 7, ground := Ground.data }], guard := none }) (u := ?ux9) rfl (by decide) (fun T w' hb hd hB K hK => ?sx9) ?rx9
  case sx9 =>
    have e45 := hd 7 45 _ (by decide) (by kernel_rfl) rfl rfl
    replace e45 : T.getD 45 undef = _ := e45
    rw [if_pos (wanted_none _ rfl)]
    clear hd hB
    go_simp
    exact hK _ (Below.refl _ _)
  refine DetR.is (o := { dst := some 47, op := Op.move (Operand.tmp 11), type := 25, pos := "law.go:206", after := #[{ on := 8, ground := Ground.guard }], guard := some (8, false) }) (u := ?ux10) rfl (by decide) (fun T w' hb hd hB K hK => ?sx10) ?rx10
  case sx10 =>
    have e11 := (hB 11 (by kernel_rfl)).trans hT11
    have eg := hd 8 46 _ (by decide) (by kernel_rfl) rfl rfl
    replace eg : T.getD 46 undef = .bool false := eg
    rw [if_pos (wanted_yes 8 46 false rfl rfl eg)]
    clear eg
    clear hd hB
    go_simp
    exact hK _ (Below.refl _ _)
  refine DetR.is (o := { dst := some 48, op := Op.call { callee := Callee.builtin Builtin.len, args := #[Operand.tmp 47], argTypes := #[25] }, type := 3, pos := "law.go:206", after := #[{ on := 9, ground := Ground.data }, { on := 8, ground := Ground.guard }], guard := some (8, false) }) (u := ?ux11) rfl (by decide) (fun T w' hb hd hB K hK => ?sx11) ?rx11
  case sx11 =>
    have e47 := hd 9 47 _ (by decide) (by kernel_rfl) rfl rfl
    replace e47 : T.getD 47 undef = _ := e47
    have eg := hd 8 46 _ (by decide) (by kernel_rfl) rfl rfl
    replace eg : T.getD 46 undef = .bool false := eg
    rw [if_pos (wanted_yes 8 46 false rfl rfl eg)]
    clear eg
    clear hd hB
    go_simp
    exact hK _ (Below.refl _ _)
  refine DetR.is (o := { dst := some 49, op := Op.move (Operand.tmp 12), type := 25, pos := "law.go:206", after := #[{ on := 8, ground := Ground.guard }], guard := some (8, false) }) (u := ?ux12) rfl (by decide) (fun T w' hb hd hB K hK => ?sx12) ?rx12
  case sx12 =>
    have e12 := (hB 12 (by kernel_rfl)).trans hT12
    have eg := hd 8 46 _ (by decide) (by kernel_rfl) rfl rfl
    replace eg : T.getD 46 undef = .bool false := eg
    rw [if_pos (wanted_yes 8 46 false rfl rfl eg)]
    clear eg
    clear hd hB
    go_simp
    exact hK _ (Below.refl _ _)
  refine DetR.is (o := { dst := some 50, op := Op.call { callee := Callee.builtin Builtin.len, args := #[Operand.tmp 49], argTypes := #[25] }, type := 3, pos := "law.go:206", after := #[{ on := 11, ground := Ground.data }, { on := 8, ground := Ground.guard }], guard := some (8, false) }) (u := ?ux13) rfl (by decide) (fun T w' hb hd hB K hK => ?sx13) ?rx13
  case sx13 =>
    have e49 := hd 11 49 _ (by decide) (by kernel_rfl) rfl rfl
    replace e49 : T.getD 49 undef = _ := e49
    have eg := hd 8 46 _ (by decide) (by kernel_rfl) rfl rfl
    replace eg : T.getD 46 undef = .bool false := eg
    rw [if_pos (wanted_yes 8 46 false rfl rfl eg)]
    clear eg
    clear hd hB
    go_simp
    exact hK _ (Below.refl _ _)
  refine DetR.is (o := { dst := some 51, op := Op.binOp BinOp.lss 3 (Operand.tmp 48) (Operand.tmp 50) 3, type := 4, pos := "law.go:206", after := #[{ on := 10, ground := Ground.data }, { on := 12, ground := Ground.data }, { on := 8, ground := Ground.guard }], guard := some (8, false) }) (u := .bool false) rfl (by decide) (fun T w' hb hd hB K hK => ?sx14) ?rx14
  case sx14 =>
    have e48 := hd 10 48 _ (by decide) (by kernel_rfl) rfl rfl
    replace e48 : T.getD 48 undef = _ := e48
    have e50 := hd 12 50 _ (by decide) (by kernel_rfl) rfl rfl
    replace e50 : T.getD 50 undef = _ := e50
    have eg := hd 8 46 _ (by decide) (by kernel_rfl) rfl rfl
    replace eg : T.getD 46 undef = .bool false := eg
    rw [if_pos (wanted_yes 8 46 false rfl rfl eg)]
    clear eg
    clear hd hB
    go_simp
    have hq : decide (nz < np) = false := decide_eq_false (by omega)
    rw [hq]
    exact hK _ (Below.refl _ _)
  refine DetR.is (o := { dst := some 52, op := Op.pick (Operand.tmp 46) (Operand.const (Value.bool true)) (Operand.tmp 51), type := 4, pos := "law.go:206", after := #[{ on := 8, ground := Ground.data }, { on := 13, ground := Ground.data }], guard := none }) (u := ?ux15) rfl (by decide) (fun T w' hb hd hB K hK => ?sx15) ?rx15
  case sx15 =>
    have e46 := hd 8 46 _ (by decide) (by kernel_rfl) rfl rfl
    replace e46 : T.getD 46 undef = _ := e46
    have e51 := hd 13 51 _ (by decide) (by kernel_rfl) rfl rfl
    replace e51 : T.getD 51 undef = _ := e51
    rw [if_pos (wanted_none _ rfl)]
    clear hd hB
    go_simp
    exact hK _ (Below.refl _ _)
  refine DetR.is (o := { dst := some 53, op := Op.move (Operand.tmp 52), type := 4, pos := "law.go:206", after := #[{ on := 14, ground := Ground.data }, { on := 8, ground := Ground.chain }], guard := none }) (u := ?ux16) rfl (by decide) (fun T w' hb hd hB K hK => ?sx16) ?rx16
  case sx16 =>
    have e52 := hd 14 52 _ (by decide) (by kernel_rfl) rfl rfl
    replace e52 : T.getD 52 undef = _ := e52
    rw [if_pos (wanted_none _ rfl)]
    clear hd hB
    go_simp
    exact hK _ (Below.refl _ _)
  refine DetR.is (o := { dst := some 54, op := Op.move (Operand.tmp 11), type := 25, pos := "law.go:206", after := #[{ on := 15, ground := Ground.guard }], guard := some (15, false) }) (u := ?ux17) rfl (by decide) (fun T w' hb hd hB K hK => ?sx17) ?rx17
  case sx17 =>
    have e11 := (hB 11 (by kernel_rfl)).trans hT11
    have eg := hd 15 53 _ (by decide) (by kernel_rfl) rfl rfl
    replace eg : T.getD 53 undef = .bool false := eg
    rw [if_pos (wanted_yes 15 53 false rfl rfl eg)]
    clear eg
    clear hd hB
    go_simp
    exact hK _ (Below.refl _ _)
  refine DetR.is (o := { dst := some 55, op := Op.call { callee := Callee.builtin Builtin.len, args := #[Operand.tmp 54], argTypes := #[25] }, type := 3, pos := "law.go:206", after := #[{ on := 16, ground := Ground.data }, { on := 15, ground := Ground.guard }], guard := some (15, false) }) (u := ?ux18) rfl (by decide) (fun T w' hb hd hB K hK => ?sx18) ?rx18
  case sx18 =>
    have e54 := hd 16 54 _ (by decide) (by kernel_rfl) rfl rfl
    replace e54 : T.getD 54 undef = _ := e54
    have eg := hd 15 53 _ (by decide) (by kernel_rfl) rfl rfl
    replace eg : T.getD 53 undef = .bool false := eg
    rw [if_pos (wanted_yes 15 53 false rfl rfl eg)]
    clear eg
    clear hd hB
    go_simp
    exact hK _ (Below.refl _ _)
  refine DetR.is (o := { dst := some 56, op := Op.move (Operand.tmp 13), type := 25, pos := "law.go:206", after := #[{ on := 15, ground := Ground.guard }], guard := some (15, false) }) (u := ?ux19) rfl (by decide) (fun T w' hb hd hB K hK => ?sx19) ?rx19
  case sx19 =>
    have e13 := (hB 13 (by kernel_rfl)).trans hT13
    have eg := hd 15 53 _ (by decide) (by kernel_rfl) rfl rfl
    replace eg : T.getD 53 undef = .bool false := eg
    rw [if_pos (wanted_yes 15 53 false rfl rfl eg)]
    clear eg
    clear hd hB
    go_simp
    exact hK _ (Below.refl _ _)
  refine DetR.is (o := { dst := some 57, op := Op.call { callee := Callee.builtin Builtin.len, args := #[Operand.tmp 56], argTypes := #[25] }, type := 3, pos := "law.go:206", after := #[{ on := 18, ground := Ground.data }, { on := 15, ground := Ground.guard }], guard := some (15, false) }) (u := ?ux20) rfl (by decide) (fun T w' hb hd hB K hK => ?sx20) ?rx20
  case sx20 =>
    have e56 := hd 18 56 _ (by decide) (by kernel_rfl) rfl rfl
    replace e56 : T.getD 56 undef = _ := e56
    have eg := hd 15 53 _ (by decide) (by kernel_rfl) rfl rfl
    replace eg : T.getD 53 undef = .bool false := eg
    rw [if_pos (wanted_yes 15 53 false rfl rfl eg)]
    clear eg
    clear hd hB
    go_simp
    exact hK _ (Below.refl _ _)
  refine DetR.is (o := { dst := some 58, op := Op.binOp BinOp.lss 3 (Operand.tmp 55) (Operand.tmp 57) 3, type := 4, pos := "law.go:206", after := #[{ on := 17, ground := Ground.data }, { on := 19, ground := Ground.data }, { on := 15, ground := Ground.guard }], guard := some (15, false) }) (u := .bool false) rfl (by decide) (fun T w' hb hd hB K hK => ?sx21) ?rx21
  case sx21 =>
    have e55 := hd 17 55 _ (by decide) (by kernel_rfl) rfl rfl
    replace e55 : T.getD 55 undef = _ := e55
    have e57 := hd 19 57 _ (by decide) (by kernel_rfl) rfl rfl
    replace e57 : T.getD 57 undef = _ := e57
    have eg := hd 15 53 _ (by decide) (by kernel_rfl) rfl rfl
    replace eg : T.getD 53 undef = .bool false := eg
    rw [if_pos (wanted_yes 15 53 false rfl rfl eg)]
    clear eg
    clear hd hB
    go_simp
    have hq : decide (nz < nq) = false := decide_eq_false (by omega)
    rw [hq]
    exact hK _ (Below.refl _ _)
  refine DetR.is (o := { dst := some 59, op := Op.pick (Operand.tmp 53) (Operand.const (Value.bool true)) (Operand.tmp 58), type := 4, pos := "law.go:206", after := #[{ on := 15, ground := Ground.data }, { on := 20, ground := Ground.data }], guard := none }) (u := ?ux22) rfl (by decide) (fun T w' hb hd hB K hK => ?sx22) ?rx22
  case sx22 =>
    have e53 := hd 15 53 _ (by decide) (by kernel_rfl) rfl rfl
    replace e53 : T.getD 53 undef = _ := e53
    have e58 := hd 20 58 _ (by decide) (by kernel_rfl) rfl rfl
    replace e58 : T.getD 58 undef = _ := e58
    rw [if_pos (wanted_none _ rfl)]
    clear hd hB
    go_simp
    exact hK _ (Below.refl _ _)
  refine DetR.is (o := { dst := some 60, op := Op.move (Operand.tmp 59), type := 4, pos := "law.go:206", after := #[{ on := 21, ground := Ground.data }, { on := 15, ground := Ground.chain }], guard := none }) (u := ?ux23) rfl (by decide) (fun T w' hb hd hB K hK => ?sx23) ?rx23
  case sx23 =>
    have e59 := hd 21 59 _ (by decide) (by kernel_rfl) rfl rfl
    replace e59 : T.getD 59 undef = _ := e59
    rw [if_pos (wanted_none _ rfl)]
    clear hd hB
    go_simp
    exact hK _ (Below.refl _ _)
  refine DetR.is (o := { dst := some 61, op := Op.load 30 (Operand.tmp 9), type := 30, pos := "law.go:206", after := #[{ on := 22, ground := Ground.guard }], guard := some (22, false) }) (u := ?ux24) rfl (by decide) (fun T w' hb hd hB K hK => ?sx24) ?rx24
  case sx24 =>
    have e9 := (hB 9 (by kernel_rfl)).trans hT9
    have q9_0 : w'.cell? ⟨gz, 0, none⟩ = some (zf) := (blk_cell (blk_below hX9 hb) 0).trans rfl
    have q9_1 : w'.cell? ⟨gz, 1, none⟩ = some (zl) := (blk_cell (blk_below hX9 hb) 1).trans rfl
    have eg := hd 22 60 _ (by decide) (by kernel_rfl) rfl rfl
    replace eg : T.getD 60 undef = .bool false := eg
    rw [if_pos (wanted_yes 22 60 false rfl rfl eg)]
    clear eg
    clear hd hB
    go_simp
    exact hK _ (Below.refl _ _)
  refine DetR.is (o := { dst := some 62, op := Op.call { callee := Callee.value (Operand.func 33), args := #[Operand.tmp 61], argTypes := #[30] }, type := 3, pos := "law.go:206", after := #[{ on := 23, ground := Ground.data }, { on := 22, ground := Ground.chain }, { on := 22, ground := Ground.guard }], guard := some (22, false) }) (u := ?ux25) rfl (by decide) (fun T w' hb hd hB K hK => ?sx25) ?rx25
  case sx25 =>
    have e61 := hd 23 61 _ (by decide) (by kernel_rfl) rfl rfl
    replace e61 : T.getD 61 undef = _ := e61
    have eg := hd 22 60 _ (by decide) (by kernel_rfl) rfl rfl
    replace eg : T.getD 60 undef = .bool false := eg
    rw [if_pos (wanted_yes 22 60 false rfl rfl eg)]
    clear eg
    have hcl := hF24 w' hb
    clear hd hB
    go_simp
    go_at_call 33
    refine hcl.mono ?_
    rintro e w2 ⟨rfl, h2⟩
    exact hK _ h2
  refine DetR.is (o := { dst := some 63, op := Op.load 30 (Operand.tmp 7), type := 30, pos := "law.go:206", after := #[{ on := 22, ground := Ground.guard }], guard := some (22, false) }) (u := ?ux26) rfl (by decide) (fun T w' hb hd hB K hK => ?sx26) ?rx26
  case sx26 =>
    have e7 := (hB 7 (by kernel_rfl)).trans hT7
    have q7_0 : w'.cell? ⟨ga, 0, none⟩ = some (xf) := (blk_cell (blk_below hX7 hb) 0).trans rfl
    have q7_1 : w'.cell? ⟨ga, 1, none⟩ = some (xl) := (blk_cell (blk_below hX7 hb) 1).trans rfl
    have eg := hd 22 60 _ (by decide) (by kernel_rfl) rfl rfl
    replace eg : T.getD 60 undef = .bool false := eg
    rw [if_pos (wanted_yes 22 60 false rfl rfl eg)]
    clear eg
    clear hd hB
    go_simp
    exact hK _ (Below.refl _ _)
  refine DetR.is (o := { dst := some 64, op := Op.call { callee := Callee.value (Operand.func 33), args := #[Operand.tmp 63], argTypes := #[30] }, type := 3, pos := "law.go:206", after := #[{ on := 25, ground := Ground.data }, { on := 24, ground := Ground.chain }, { on := 22, ground := Ground.guard }], guard := some (22, false) }) (u := ?ux27) rfl (by decide) (fun T w' hb hd hB K hK => ?sx27) ?rx27
  case sx27 =>
    have e63 := hd 25 63 _ (by decide) (by kernel_rfl) rfl rfl
    replace e63 : T.getD 63 undef = _ := e63
    have eg := hd 22 60 _ (by decide) (by kernel_rfl) rfl rfl
    replace eg : T.getD 60 undef = .bool false := eg
    rw [if_pos (wanted_yes 22 60 false rfl rfl eg)]
    clear eg
    have hcl := hF26 w' hb
    clear hd hB
    go_simp
    go_at_call 33
    refine hcl.mono ?_
    rintro e w2 ⟨rfl, h2⟩
    exact hK _ h2
  refine DetR.is (o := { dst := some 65, op := Op.load 30 (Operand.tmp 8), type := 30, pos := "law.go:206", after := #[{ on := 22, ground := Ground.guard }], guard := some (22, false) }) (u := ?ux28) rfl (by decide) (fun T w' hb hd hB K hK => ?sx28) ?rx28
  case sx28 =>
    have e8 := (hB 8 (by kernel_rfl)).trans hT8
    have q8_0 : w'.cell? ⟨gb, 0, none⟩ = some (yf) := (blk_cell (blk_below hX8 hb) 0).trans rfl
    have q8_1 : w'.cell? ⟨gb, 1, none⟩ = some (yl) := (blk_cell (blk_below hX8 hb) 1).trans rfl
    have eg := hd 22 60 _ (by decide) (by kernel_rfl) rfl rfl
    replace eg : T.getD 60 undef = .bool false := eg
    rw [if_pos (wanted_yes 22 60 false rfl rfl eg)]
    clear eg
    clear hd hB
    go_simp
    exact hK _ (Below.refl _ _)
  refine DetR.is (o := { dst := some 66, op := Op.call { callee := Callee.value (Operand.func 33), args := #[Operand.tmp 65], argTypes := #[30] }, type := 3, pos := "law.go:206", after := #[{ on := 27, ground := Ground.data }, { on := 26, ground := Ground.chain }, { on := 22, ground := Ground.guard }], guard := some (22, false) }) (u := ?ux29) rfl (by decide) (fun T w' hb hd hB K hK => ?sx29) ?rx29
  case sx29 =>
    have e65 := hd 27 65 _ (by decide) (by kernel_rfl) rfl rfl
    replace e65 : T.getD 65 undef = _ := e65
    have eg := hd 22 60 _ (by decide) (by kernel_rfl) rfl rfl
    replace eg : T.getD 60 undef = .bool false := eg
    rw [if_pos (wanted_yes 22 60 false rfl rfl eg)]
    clear eg
    have hcl := hF28 w' hb
    clear hd hB
    go_simp
    go_at_call 33
    refine hcl.mono ?_
    rintro e w2 ⟨rfl, h2⟩
    exact hK _ h2
  refine DetR.is (o := { dst := some 67, op := Op.call { callee := Callee.builtin Builtin.max, args := #[Operand.tmp 64, Operand.tmp 66], argTypes := #[3, 3] }, type := 3, pos := "law.go:206", after := #[{ on := 26, ground := Ground.data }, { on := 28, ground := Ground.data }, { on := 22, ground := Ground.guard }], guard := some (22, false) }) (u := ?ux30) rfl (by decide) (fun T w' hb hd hB K hK => ?sx30) ?rx30
  case sx30 =>
    have e64 := hd 26 64 _ (by decide) (by kernel_rfl) rfl rfl
    replace e64 : T.getD 64 undef = _ := e64
    have e66 := hd 28 66 _ (by decide) (by kernel_rfl) rfl rfl
    replace e66 : T.getD 66 undef = _ := e66
    have eg := hd 22 60 _ (by decide) (by kernel_rfl) rfl rfl
    replace eg : T.getD 60 undef = .bool false := eg
    rw [if_pos (wanted_yes 22 60 false rfl rfl eg)]
    clear eg
    clear hd hB
    go_simp
    exact hK _ (Below.refl _ _)
  refine DetR.is (o := { dst := some 68, op := Op.binOp BinOp.neq 3 (Operand.tmp 62) (Operand.tmp 67) 3, type := 4, pos := "law.go:206", after := #[{ on := 24, ground := Ground.data }, { on := 29, ground := Ground.data }, { on := 22, ground := Ground.guard }], guard := some (22, false) }) (u := .bool false) rfl (by decide) (fun T w' hb hd hB K hK => ?sx31) ?rx31
  case sx31 =>
    have e62 := hd 24 62 _ (by decide) (by kernel_rfl) rfl rfl
    replace e62 : T.getD 62 undef = _ := e62
    have e67 := hd 29 67 _ (by decide) (by kernel_rfl) rfl rfl
    replace e67 : T.getD 67 undef = _ := e67
    have eg := hd 22 60 _ (by decide) (by kernel_rfl) rfl rfl
    replace eg : T.getD 60 undef = .bool false := eg
    rw [if_pos (wanted_yes 22 60 false rfl rfl eg)]
    clear eg
    clear hd hB
    go_simp
    exact hK _ (Below.refl _ _)
  refine DetR.is (o := { dst := some 69, op := Op.pick (Operand.tmp 60) (Operand.const (Value.bool true)) (Operand.tmp 68), type := 4, pos := "law.go:206", after := #[{ on := 22, ground := Ground.data }, { on := 30, ground := Ground.data }], guard := none }) (u := .bool false) rfl (by decide) (fun T w' hb hd hB K hK => ?sx32) ?rx32
  case sx32 =>
    have e60 := hd 22 60 _ (by decide) (by kernel_rfl) rfl rfl
    replace e60 : T.getD 60 undef = _ := e60
    have e68 := hd 30 68 _ (by decide) (by kernel_rfl) rfl rfl
    replace e68 : T.getD 68 undef = _ := e68
    rw [if_pos (wanted_none _ rfl)]
    clear hd hB
    go_simp
    exact hK _ (Below.refl _ _)
  refine DetR.done [some 38, some 39, some 40, some 41, some 42, some 43, some 44, some 45, some 46, some 47, some 48, some 49, some 50, some 51, some 52, some 53, some 54, some 55, some 56, some 57, some 58, some 59, some 60, some 61, some 62, some 63, some 64, some 65, some 66, some 67, some 68, some 69] (by kernel_rfl) rfl (by kernel_rfl) ?_
  intro v w' hb hv
  exact hK v w' hb (hv 31 _ (by decide) rfl)
set_option maxHeartbeats 4000000 in
set_option maxRecDepth 100000 in
theorem TermCounts_r17 {id : Nat} {a : Act} {w : World} {Q : Exit → Act → World → Prop} {Az Ap : Addr} {nz np cz cp : Nat} {i x : Int}
    (hr : regionOk #[{ dst := some 76, op := Op.move (Operand.tmp 11), type := 25, pos := "law.go:210", after := #[], guard := none }, { dst := some 77, op := Op.move (Operand.tmp 14), type := 3, pos := "law.go:210", after := #[], guard := none }, { dst := some 78, op := Op.indexAddr 25 (Operand.tmp 76) (Operand.tmp 77), type := 0, pos := "law.go:210", after := #[{ on := 0, ground := Ground.data }, { on := 1, ground := Ground.data }], guard := none }, { dst := some 79, op := Op.load 3 (Operand.tmp 78), type := 3, pos := "law.go:210", after := #[{ on := 2, ground := Ground.data }], guard := none }, { dst := some 80, op := Op.move (Operand.tmp 12), type := 25, pos := "law.go:210", after := #[], guard := none }, { dst := some 81, op := Op.move (Operand.tmp 14), type := 3, pos := "law.go:210", after := #[], guard := none }, { dst := some 82, op := Op.indexAddr 25 (Operand.tmp 80) (Operand.tmp 81), type := 0, pos := "law.go:210", after := #[{ on := 4, ground := Ground.data }, { on := 5, ground := Ground.data }], guard := none }, { dst := some 83, op := Op.load 3 (Operand.tmp 82), type := 3, pos := "law.go:210", after := #[{ on := 6, ground := Ground.data }], guard := none }, { dst := some 84, op := Op.binOp BinOp.neq 3 (Operand.tmp 79) (Operand.tmp 83) 3, type := 4, pos := "law.go:210", after := #[{ on := 3, ground := Ground.data }, { on := 7, ground := Ground.data }], guard := none }] a.tmps.size = true)
    (hT11 : a.tmps.getD 11 undef = .slice (some Az) nz cz)
    (hT12 : a.tmps.getD 12 undef = .slice (some Ap) np cp)
    (hT14 : a.tmps.getD 14 undef = .int .i64 i)
    (h1 : 0 ≤ i) (h2 : i < (nz : Int)) (h3 : i < (np : Int)) (h4 : nz ≤ 1000) (h5 : nz ≤ cz) (h6 : np ≤ cp) (hz : w.cell? (Az.add i.toNat) = some (.int .i64 x)) (hp : w.cell? (Ap.add i.toNat) = some (.int .i64 x)) (hlz : (Az.add i.toNat).block < w.heap.size) (hlp : (Ap.add i.toNat).block < w.heap.size)
    (hK : ∀ v w', Below w.heap.size w w' → v 8 = .bool false → Q .normal { tmps := layL [some 76, some 77, some 78, some 79, some 80, some 81, some 82, some 83, some 84] 0 v a.tmps, defers := a.defers } w') :
    (Code.region id #[{ dst := some 76, op := Op.move (Operand.tmp 11), type := 25, pos := "law.go:210", after := #[], guard := none }, { dst := some 77, op := Op.move (Operand.tmp 14), type := 3, pos := "law.go:210", after := #[], guard := none }, { dst := some 78, op := Op.indexAddr 25 (Operand.tmp 76) (Operand.tmp 77), type := 0, pos := "law.go:210", after := #[{ on := 0, ground := Ground.data }, { on := 1, ground := Ground.data }], guard := none }, { dst := some 79, op := Op.load 3 (Operand.tmp 78), type := 3, pos := "law.go:210", after := #[{ on := 2, ground := Ground.data }], guard := none }, { dst := some 80, op := Op.move (Operand.tmp 12), type := 25, pos := "law.go:210", after := #[], guard := none }, { dst := some 81, op := Op.move (Operand.tmp 14), type := 3, pos := "law.go:210", after := #[], guard := none }, { dst := some 82, op := Op.indexAddr 25 (Operand.tmp 80) (Operand.tmp 81), type := 0, pos := "law.go:210", after := #[{ on := 4, ground := Ground.data }, { on := 5, ground := Ground.data }], guard := none }, { dst := some 83, op := Op.load 3 (Operand.tmp 82), type := 3, pos := "law.go:210", after := #[{ on := 6, ground := Ground.data }], guard := none }, { dst := some 84, op := Op.binOp BinOp.neq 3 (Operand.tmp 79) (Operand.tmp 83) 3, type := 4, pos := "law.go:210", after := #[{ on := 3, ground := Ground.data }, { on := 7, ground := Ground.data }], guard := none }] true).wp Try.prog Q a w := by
  have hmx : Try.prog.follows .mixedOrders = true := by kernel_rfl
  refine region_detR 9 hmx hr (by kernel_rfl) ?_
  refine DetR.is (o := { dst := some 76, op := Op.move (Operand.tmp 11), type := 25, pos := "law.go:210", after := #[], guard := none }) (u := ?ux33) rfl (by decide) (fun T w' hb hd hB K hK => ?sx33) ?rx33
  case sx33 =>
    have e11 := (hB 11 (by kernel_rfl)).trans hT11
    rw [if_pos (wanted_none _ rfl)]
    have hz' := (hb.cell hlz).trans hz
    have hp' := (hb.cell hlp).trans hp
    clear hd hB
    go_simp
    exact hK _ (Below.refl _ _)
  refine DetR.is (o := { dst := some 77, op := Op.move (Operand.tmp 14), type := 3, pos := "law.go:210", after := #[], guard := none }) (u := ?ux34) rfl (by decide) (fun T w' hb hd hB K hK => ?sx34) ?rx34
  case sx34 =>
    have e14 := (hB 14 (by kernel_rfl)).trans hT14
    rw [if_pos (wanted_none _ rfl)]
    have hz' := (hb.cell hlz).trans hz
    have hp' := (hb.cell hlp).trans hp
    clear hd hB
    go_simp
    exact hK _ (Below.refl _ _)
  refine DetR.is (o := { dst := some 78, op := Op.indexAddr 25 (Operand.tmp 76) (Operand.tmp 77), type := 0, pos := "law.go:210", after := #[{ on := 0, ground := Ground.data }, { on := 1, ground := Ground.data }], guard := none }) (u := ?ux35) rfl (by decide) (fun T w' hb hd hB K hK => ?sx35) ?rx35
  case sx35 =>
    have e76 := hd 0 76 _ (by decide) (by kernel_rfl) rfl rfl
    replace e76 : T.getD 76 undef = _ := e76
    have e77 := hd 1 77 _ (by decide) (by kernel_rfl) rfl rfl
    replace e77 : T.getD 77 undef = _ := e77
    rw [if_pos (wanted_none _ rfl)]
    have hz' := (hb.cell hlz).trans hz
    have hp' := (hb.cell hlp).trans hp
    clear hd hB
    go_simp
    exact hK _ (Below.refl _ _)
  refine DetR.is (o := { dst := some 79, op := Op.load 3 (Operand.tmp 78), type := 3, pos := "law.go:210", after := #[{ on := 2, ground := Ground.data }], guard := none }) (u := ?ux36) rfl (by decide) (fun T w' hb hd hB K hK => ?sx36) ?rx36
  case sx36 =>
    have e78 := hd 2 78 _ (by decide) (by kernel_rfl) rfl rfl
    replace e78 : T.getD 78 undef = _ := e78
    rw [if_pos (wanted_none _ rfl)]
    have hz' := (hb.cell hlz).trans hz
    have hp' := (hb.cell hlp).trans hp
    clear hd hB
    go_simp
    exact hK _ (Below.refl _ _)
  refine DetR.is (o := { dst := some 80, op := Op.move (Operand.tmp 12), type := 25, pos := "law.go:210", after := #[], guard := none }) (u := ?ux37) rfl (by decide) (fun T w' hb hd hB K hK => ?sx37) ?rx37
  case sx37 =>
    have e12 := (hB 12 (by kernel_rfl)).trans hT12
    rw [if_pos (wanted_none _ rfl)]
    have hz' := (hb.cell hlz).trans hz
    have hp' := (hb.cell hlp).trans hp
    clear hd hB
    go_simp
    exact hK _ (Below.refl _ _)
  refine DetR.is (o := { dst := some 81, op := Op.move (Operand.tmp 14), type := 3, pos := "law.go:210", after := #[], guard := none }) (u := ?ux38) rfl (by decide) (fun T w' hb hd hB K hK => ?sx38) ?rx38
  case sx38 =>
    have e14 := (hB 14 (by kernel_rfl)).trans hT14
    rw [if_pos (wanted_none _ rfl)]
    have hz' := (hb.cell hlz).trans hz
    have hp' := (hb.cell hlp).trans hp
    clear hd hB
    go_simp
    exact hK _ (Below.refl _ _)
  refine DetR.is (o := { dst := some 82, op := Op.indexAddr 25 (Operand.tmp 80) (Operand.tmp 81), type := 0, pos := "law.go:210", after := #[{ on := 4, ground := Ground.data }, { on := 5, ground := Ground.data }], guard := none }) (u := ?ux39) rfl (by decide) (fun T w' hb hd hB K hK => ?sx39) ?rx39
  case sx39 =>
    have e80 := hd 4 80 _ (by decide) (by kernel_rfl) rfl rfl
    replace e80 : T.getD 80 undef = _ := e80
    have e81 := hd 5 81 _ (by decide) (by kernel_rfl) rfl rfl
    replace e81 : T.getD 81 undef = _ := e81
    rw [if_pos (wanted_none _ rfl)]
    have hz' := (hb.cell hlz).trans hz
    have hp' := (hb.cell hlp).trans hp
    clear hd hB
    go_simp
    exact hK _ (Below.refl _ _)
  refine DetR.is (o := { dst := some 83, op := Op.load 3 (Operand.tmp 82), type := 3, pos := "law.go:210", after := #[{ on := 6, ground := Ground.data }], guard := none }) (u := ?ux40) rfl (by decide) (fun T w' hb hd hB K hK => ?sx40) ?rx40
  case sx40 =>
    have e82 := hd 6 82 _ (by decide) (by kernel_rfl) rfl rfl
    replace e82 : T.getD 82 undef = _ := e82
    rw [if_pos (wanted_none _ rfl)]
    have hz' := (hb.cell hlz).trans hz
    have hp' := (hb.cell hlp).trans hp
    clear hd hB
    go_simp
    exact hK _ (Below.refl _ _)
  refine DetR.is (o := { dst := some 84, op := Op.binOp BinOp.neq 3 (Operand.tmp 79) (Operand.tmp 83) 3, type := 4, pos := "law.go:210", after := #[{ on := 3, ground := Ground.data }, { on := 7, ground := Ground.data }], guard := none }) (u := .bool false) rfl (by decide) (fun T w' hb hd hB K hK => ?sx41) ?rx41
  case sx41 =>
    have e79 := hd 3 79 _ (by decide) (by kernel_rfl) rfl rfl
    replace e79 : T.getD 79 undef = _ := e79
    have e83 := hd 7 83 _ (by decide) (by kernel_rfl) rfl rfl
    replace e83 : T.getD 83 undef = _ := e83
    rw [if_pos (wanted_none _ rfl)]
    have hz' := (hb.cell hlz).trans hz
    have hp' := (hb.cell hlp).trans hp
    clear hd hB
    go_simp
    exact hK _ (Below.refl _ _)
  refine DetR.done [some 76, some 77, some 78, some 79, some 80, some 81, some 82, some 83, some 84] (by kernel_rfl) rfl (by kernel_rfl) ?_
  intro v w' hb hv
  exact hK v w' hb (hv 8 _ (by decide) rfl)
set_option maxHeartbeats 4000000 in
set_option maxRecDepth 100000 in
theorem TermCounts_r19 {id : Nat} {a : Act} {w : World} {Q : Exit → Act → World → Prop} {f nn : Int} {sz sa sb cz ca cb gz ga gb : Nat} {zf zl xf xl yf yl : Value} {PZ : List (List Int)}
    (hr : regionOk #[{ dst := some 85, op := Op.load 30 (Operand.tmp 9), type := 30, pos := "law.go:214", after := #[], guard := none }, { dst := some 86, op := Op.call { callee := Callee.value (Operand.func 34), args := #[Operand.tmp 85], argTypes := #[30] }, type := 3, pos := "law.go:214", after := #[{ on := 0, ground := Ground.data }], guard := none }, { dst := some 87, op := Op.load 30 (Operand.tmp 7), type := 30, pos := "law.go:214", after := #[], guard := none }, { dst := some 88, op := Op.call { callee := Callee.value (Operand.func 34), args := #[Operand.tmp 87], argTypes := #[30] }, type := 3, pos := "law.go:214", after := #[{ on := 2, ground := Ground.data }, { on := 1, ground := Ground.chain }], guard := none }, { dst := some 89, op := Op.binOp BinOp.add 3 (Operand.const (Value.int IntKind.i64 1)) (Operand.tmp 88) 3, type := 3, pos := "law.go:214", after := #[{ on := 3, ground := Ground.data }], guard := none }, { dst := some 90, op := Op.load 30 (Operand.tmp 8), type := 30, pos := "law.go:214", after := #[], guard := none }, { dst := some 91, op := Op.call { callee := Callee.value (Operand.func 34), args := #[Operand.tmp 90], argTypes := #[30] }, type := 3, pos := "law.go:214", after := #[{ on := 5, ground := Ground.data }, { on := 3, ground := Ground.chain }], guard := none }, { dst := some 92, op := Op.binOp BinOp.add 3 (Operand.tmp 89) (Operand.tmp 91) 3, type := 3, pos := "law.go:214", after := #[{ on := 4, ground := Ground.data }, { on := 6, ground := Ground.data }], guard := none }, { dst := some 93, op := Op.binOp BinOp.eql 3 (Operand.tmp 86) (Operand.tmp 92) 3, type := 4, pos := "law.go:214", after := #[{ on := 1, ground := Ground.data }, { on := 7, ground := Ground.data }], guard := none }, { dst := some 94, op := Op.move (Operand.tmp 93), type := 4, pos := "law.go:214", after := #[{ on := 8, ground := Ground.data }, { on := 6, ground := Ground.chain }], guard := none }, { dst := some 95, op := Op.load 30 (Operand.tmp 9), type := 30, pos := "law.go:214", after := #[{ on := 9, ground := Ground.guard }], guard := some (9, true) }, { dst := some 96, op := Op.move (Operand.tmp 2), type := 3, pos := "law.go:214", after := #[{ on := 9, ground := Ground.guard }], guard := some (9, true) }, { dst := some 97, op := Op.call { callee := Callee.value (Operand.func 35), args := #[Operand.tmp 95, Operand.tmp 96], argTypes := #[30, 3] }, type := 3, pos := "law.go:214", after := #[{ on := 10, ground := Ground.data }, { on := 11, ground := Ground.data }, { on := 9, ground := Ground.chain }, { on := 9, ground := Ground.guard }], guard := some (9, true) }, { dst := some 98, op := Op.move (Operand.tmp 10), type := 3, pos := "law.go:214", after := #[{ on := 9, ground := Ground.guard }], guard := some (9, true) }, { dst := some 99, op := Op.load 30 (Operand.tmp 7), type := 30, pos := "law.go:214", after := #[{ on := 9, ground := Ground.guard }], guard := some (9, true) }, { dst := some 100, op := Op.move (Operand.tmp 2), type := 3, pos := "law.go:214", after := #[{ on := 9, ground := Ground.guard }], guard := some (9, true) }, { dst := some 101, op := Op.call { callee := Callee.value (Operand.func 35), args := #[Operand.tmp 99, Operand.tmp 100], argTypes := #[30, 3] }, type := 3, pos := "law.go:214", after := #[{ on := 14, ground := Ground.data }, { on := 15, ground := Ground.data }, { on := 12, ground := Ground.chain }, { on := 9, ground := Ground.guard }], guard := some (9, true) }, { dst := some 102, op := Op.binOp BinOp.add 3 (Operand.tmp 98) (Operand.tmp 101) 3, type := 3, pos := "law.go:214", after := #[{ on := 13, ground := Ground.data }, { on := 16, ground := Ground.data }, { on := 9, ground := Ground.guard }], guard := some (9, true) }, { dst := some 103, op := Op.load 30 (Operand.tmp 8), type := 30, pos := "law.go:214", after := #[{ on := 9, ground := Ground.guard }], guard := some (9, true) }, { dst := some 104, op := Op.move (Operand.tmp 2), type := 3, pos := "law.go:214", after := #[{ on := 9, ground := Ground.guard }], guard := some (9, true) }, { dst := some 105, op := Op.call { callee := Callee.value (Operand.func 35), args := #[Operand.tmp 103, Operand.tmp 104], argTypes := #[30, 3] }, type := 3, pos := "law.go:214", after := #[{ on := 18, ground := Ground.data }, { on := 19, ground := Ground.data }, { on := 16, ground := Ground.chain }, { on := 9, ground := Ground.guard }], guard := some (9, true) }, { dst := some 106, op := Op.binOp BinOp.add 3 (Operand.tmp 102) (Operand.tmp 105) 3, type := 3, pos := "law.go:214", after := #[{ on := 17, ground := Ground.data }, { on := 20, ground := Ground.data }, { on := 9, ground := Ground.guard }], guard := some (9, true) }, { dst := some 107, op := Op.binOp BinOp.eql 3 (Operand.tmp 97) (Operand.tmp 106) 3, type := 4, pos := "law.go:214", after := #[{ on := 12, ground := Ground.data }, { on := 21, ground := Ground.data }, { on := 9, ground := Ground.guard }], guard := some (9, true) }, { dst := some 108, op := Op.pick (Operand.tmp 94) (Operand.tmp 107) (Operand.const (Value.bool false)), type := 4, pos := "law.go:214", after := #[{ on := 9, ground := Ground.data }, { on := 22, ground := Ground.data }], guard := none }, { dst := some 109, op := Op.move (Operand.tmp 108), type := 4, pos := "law.go:214", after := #[{ on := 23, ground := Ground.data }, { on := 20, ground := Ground.chain }], guard := none }, { dst := some 110, op := Op.load 30 (Operand.tmp 9), type := 30, pos := "law.go:214", after := #[{ on := 24, ground := Ground.guard }], guard := some (24, true) }, { dst := some 111, op := Op.call { callee := Callee.value (Operand.func 23), args := #[Operand.tmp 110], argTypes := #[30] }, type := 32, pos := "law.go:214", after := #[{ on := 25, ground := Ground.data }, { on := 24, ground := Ground.chain }, { on := 24, ground := Ground.guard }], guard := some (24, true) }, { dst := some 112, op := Op.call { callee := Callee.builtin Builtin.len, args := #[Operand.tmp 111], argTypes := #[32] }, type := 3, pos := "law.go:214", after := #[{ on := 26, ground := Ground.data }, { on := 24, ground := Ground.guard }], guard := some (24, true) }, { dst := some 113, op := Op.load 30 (Operand.tmp 9), type := 30, pos := "law.go:214", after := #[{ on := 24, ground := Ground.guard }], guard := some (24, true) }, { dst := some 114, op := Op.call { callee := Callee.value (Operand.func 34), args := #[Operand.tmp 113], argTypes := #[30] }, type := 3, pos := "law.go:214", after := #[{ on := 28, ground := Ground.data }, { on := 26, ground := Ground.chain }, { on := 24, ground := Ground.guard }], guard := some (24, true) }, { dst := some 115, op := Op.binOp BinOp.eql 3 (Operand.tmp 112) (Operand.tmp 114) 3, type := 4, pos := "law.go:214", after := #[{ on := 27, ground := Ground.data }, { on := 29, ground := Ground.data }, { on := 24, ground := Ground.guard }], guard := some (24, true) }, { dst := some 116, op := Op.pick (Operand.tmp 109) (Operand.tmp 115) (Operand.const (Value.bool false)), type := 4, pos := "law.go:214", after := #[{ on := 24, ground := Ground.data }, { on := 30, ground := Ground.data }], guard := none }, { dst := some 6, op := Op.assign (Operand.tmp 116), type := 4, pos := "law.go:214", after := #[{ on := 31, ground := Ground.data }, { on := 29, ground := Ground.chain }, { on := 0, ground := Ground.phase }, { on := 1, ground := Ground.phase }, { on := 2, ground := Ground.phase }, { on := 3, ground := Ground.phase }, { on := 4, ground := Ground.phase }, { on := 5, ground := Ground.phase }, { on := 6, ground := Ground.phase }, { on := 7, ground := Ground.phase }, { on := 8, ground := Ground.phase }, { on := 9, ground := Ground.phase }, { on := 10, ground := Ground.phase }, { on := 11, ground := Ground.phase }, { on := 12, ground := Ground.phase }, { on := 13, ground := Ground.phase }, { on := 14, ground := Ground.phase }, { on := 15, ground := Ground.phase }, { on := 16, ground := Ground.phase }, { on := 17, ground := Ground.phase }, { on := 18, ground := Ground.phase }, { on := 19, ground := Ground.phase }, { on := 20, ground := Ground.phase }, { on := 21, ground := Ground.phase }, { on := 22, ground := Ground.phase }, { on := 23, ground := Ground.phase }, { on := 24, ground := Ground.phase }, { on := 25, ground := Ground.phase }, { on := 26, ground := Ground.phase }, { on := 27, ground := Ground.phase }, { on := 28, ground := Ground.phase }, { on := 29, ground := Ground.phase }, { on := 30, ground := Ground.phase }, { on := 31, ground := Ground.phase }], guard := none }] a.tmps.size = true)
    (hT2 : a.tmps.getD 2 undef = .int .i64 f)
    (hT10 : a.tmps.getD 10 undef = .int .i64 nn)
    (hT9 : a.tmps.getD 9 undef = .pointer (some ⟨gz, 0, none⟩)) (hX9 : w.heap[gz]? = some (.cells #[zf, zl] 30 (0, 0)))
    (hT7 : a.tmps.getD 7 undef = .pointer (some ⟨ga, 0, none⟩)) (hX7 : w.heap[ga]? = some (.cells #[xf, xl] 30 (0, 0)))
    (hT8 : a.tmps.getD 8 undef = .pointer (some ⟨gb, 0, none⟩)) (hX8 : w.heap[gb]? = some (.cells #[yf, yl] 30 (0, 0)))
    (hF1 : ∀ w1, Below w.heap.size w w1 → Calls Try.prog 34 #[.agg #[zf, zl]] w1 fun e w2 => e = .returned (.int .i64 (sz : Int)) ∧ Below w1.heap.size w1 w2)
    (hF3 : ∀ w1, Below w.heap.size w w1 → Calls Try.prog 34 #[.agg #[xf, xl]] w1 fun e w2 => e = .returned (.int .i64 (sa : Int)) ∧ Below w1.heap.size w1 w2)
    (hF6 : ∀ w1, Below w.heap.size w w1 → Calls Try.prog 34 #[.agg #[yf, yl]] w1 fun e w2 => e = .returned (.int .i64 (sb : Int)) ∧ Below w1.heap.size w1 w2)
    (hF12 : ∀ w1, Below w.heap.size w w1 → Calls Try.prog 35 #[.agg #[zf, zl], .int .i64 f] w1 fun e w2 => e = .returned (.int .i64 (cz : Int)) ∧ Below w1.heap.size w1 w2)
    (hF16 : ∀ w1, Below w.heap.size w w1 → Calls Try.prog 35 #[.agg #[xf, xl], .int .i64 f] w1 fun e w2 => e = .returned (.int .i64 (ca : Int)) ∧ Below w1.heap.size w1 w2)
    (hF20 : ∀ w1, Below w.heap.size w w1 → Calls Try.prog 35 #[.agg #[yf, yl], .int .i64 f] w1 fun e w2 => e = .returned (.int .i64 (cb : Int)) ∧ Below w1.heap.size w1 w2)
    (hF26 : ∀ w1, Below w.heap.size w w1 → Calls Try.prog 23 #[.agg #[zf, zl]] w1 fun e w2 => ∃ u, e = .returned u ∧ RowTold (Kd.slice 3 (Kd.int .i64)) PZ u w2 ∧ Below w1.heap.size w1 w2)
    (hF29 : ∀ w1, Below w.heap.size w w1 → Calls Try.prog 34 #[.agg #[zf, zl]] w1 fun e w2 => e = .returned (.int .i64 (sz : Int)) ∧ Below w1.heap.size w1 w2)
    (h1 : sz = 1 + sa + sb) (h2 : (cz : Int) = nn + ca + cb) (h3 : PZ.length = sz) (h4 : sa ≤ 60) (h5 : sb ≤ 60) (h6 : ca ≤ 60) (h7 : cb ≤ 60) (h8 : nn = 0 ∨ nn = 1)
    (hK : ∀ v w', Below w.heap.size w w' → v 32 = .bool true → Q .normal { tmps := layL [some 85, some 86, some 87, some 88, some 89, some 90, some 91, some 92, some 93, some 94, some 95, some 96, some 97, some 98, some 99, some 100, some 101, some 102, some 103, some 104, some 105, some 106, some 107, some 108, some 109, some 110, some 111, some 112, some 113, some 114, some 115, some 116, some 6] 0 v a.tmps, defers := a.defers } w') :
    (Code.region id #[{ dst := some 85, op := Op.load 30 (Operand.tmp 9), type := 30, pos := "law.go:214", after := #[], guard := none }, { dst := some 86, op := Op.call { callee := Callee.value (Operand.func 34), args := #[Operand.tmp 85], argTypes := #[30] }, type := 3, pos := "law.go:214", after := #[{ on := 0, ground := Ground.data }], guard := none }, { dst := some 87, op := Op.load 30 (Operand.tmp 7), type := 30, pos := "law.go:214", after := #[], guard := none }, { dst := some 88, op := Op.call { callee := Callee.value (Operand.func 34), args := #[Operand.tmp 87], argTypes := #[30] }, type := 3, pos := "law.go:214", after := #[{ on := 2, ground := Ground.data }, { on := 1, ground := Ground.chain }], guard := none }, { dst := some 89, op := Op.binOp BinOp.add 3 (Operand.const (Value.int IntKind.i64 1)) (Operand.tmp 88) 3, type := 3, pos := "law.go:214", after := #[{ on := 3, ground := Ground.data }], guard := none }, { dst := some 90, op := Op.load 30 (Operand.tmp 8), type := 30, pos := "law.go:214", after := #[], guard := none }, { dst := some 91, op := Op.call { callee := Callee.value (Operand.func 34), args := #[Operand.tmp 90], argTypes := #[30] }, type := 3, pos := "law.go:214", after := #[{ on := 5, ground := Ground.data }, { on := 3, ground := Ground.chain }], guard := none }, { dst := some 92, op := Op.binOp BinOp.add 3 (Operand.tmp 89) (Operand.tmp 91) 3, type := 3, pos := "law.go:214", after := #[{ on := 4, ground := Ground.data }, { on := 6, ground := Ground.data }], guard := none }, { dst := some 93, op := Op.binOp BinOp.eql 3 (Operand.tmp 86) (Operand.tmp 92) 3, type := 4, pos := "law.go:214", after := #[{ on := 1, ground := Ground.data }, { on := 7, ground := Ground.data }], guard := none }, { dst := some 94, op := Op.move (Operand.tmp 93), type := 4, pos := "law.go:214", after := #[{ on := 8, ground := Ground.data }, { on := 6, ground := Ground.chain }], guard := none }, { dst := some 95, op := Op.load 30 (Operand.tmp 9), type := 30, pos := "law.go:214", after := #[{ on := 9, ground := Ground.guard }], guard := some (9, true) }, { dst := some 96, op := Op.move (Operand.tmp 2), type := 3, pos := "law.go:214", after := #[{ on := 9, ground := Ground.guard }], guard := some (9, true) }, { dst := some 97, op := Op.call { callee := Callee.value (Operand.func 35), args := #[Operand.tmp 95, Operand.tmp 96], argTypes := #[30, 3] }, type := 3, pos := "law.go:214", after := #[{ on := 10, ground := Ground.data }, { on := 11, ground := Ground.data }, { on := 9, ground := Ground.chain }, { on := 9, ground := Ground.guard }], guard := some (9, true) }, { dst := some 98, op := Op.move (Operand.tmp 10), type := 3, pos := "law.go:214", after := #[{ on := 9, ground := Ground.guard }], guard := some (9, true) }, { dst := some 99, op := Op.load 30 (Operand.tmp 7), type := 30, pos := "law.go:214", after := #[{ on := 9, ground := Ground.guard }], guard := some (9, true) }, { dst := some 100, op := Op.move (Operand.tmp 2), type := 3, pos := "law.go:214", after := #[{ on := 9, ground := Ground.guard }], guard := some (9, true) }, { dst := some 101, op := Op.call { callee := Callee.value (Operand.func 35), args := #[Operand.tmp 99, Operand.tmp 100], argTypes := #[30, 3] }, type := 3, pos := "law.go:214", after := #[{ on := 14, ground := Ground.data }, { on := 15, ground := Ground.data }, { on := 12, ground := Ground.chain }, { on := 9, ground := Ground.guard }], guard := some (9, true) }, { dst := some 102, op := Op.binOp BinOp.add 3 (Operand.tmp 98) (Operand.tmp 101) 3, type := 3, pos := "law.go:214", after := #[{ on := 13, ground := Ground.data }, { on := 16, ground := Ground.data }, { on := 9, ground := Ground.guard }], guard := some (9, true) }, { dst := some 103, op := Op.load 30 (Operand.tmp 8), type := 30, pos := "law.go:214", after := #[{ on := 9, ground := Ground.guard }], guard := some (9, true) }, { dst := some 104, op := Op.move (Operand.tmp 2), type := 3, pos := "law.go:214", after := #[{ on := 9, ground := Ground.guard }], guard := some (9, true) }, { dst := some 105, op := Op.call { callee := Callee.value (Operand.func 35), args := #[Operand.tmp 103, Operand.tmp 104], argTypes := #[30, 3] }, type := 3, pos := "law.go:214", after := #[{ on := 18, ground := Ground.data }, { on := 19, ground := Ground.data }, { on := 16, ground := Ground.chain }, { on := 9, ground := Ground.guard }], guard := some (9, true) }, { dst := some 106, op := Op.binOp BinOp.add 3 (Operand.tmp 102) (Operand.tmp 105) 3, type := 3, pos := "law.go:214", after := #[{ on := 17, ground := Ground.data }, { on := 20, ground := Ground.data }, { on := 9, ground := Ground.guard }], guard := some (9, true) }, { dst := some 107, op := Op.binOp BinOp.eql 3 (Operand.tmp 97) (Operand.tmp 106) 3, type := 4, pos := "law.go:214", after := #[{ on := 12, ground := Ground.data }, { on := 21, ground := Ground.data }, { on := 9, ground := Ground.guard }], guard := some (9, true) }, { dst := some 108, op := Op.pick (Operand.tmp 94) (Operand.tmp 107) (Operand.const (Value.bool false)), type := 4, pos := "law.go:214", after := #[{ on := 9, ground := Ground.data }, { on := 22, ground := Ground.data }], guard := none }, { dst := some 109, op := Op.move (Operand.tmp 108), type := 4, pos := "law.go:214", after := #[{ on := 23, ground := Ground.data }, { on := 20, ground := Ground.chain }], guard := none }, { dst := some 110, op := Op.load 30 (Operand.tmp 9), type := 30, pos := "law.go:214", after := #[{ on := 24, ground := Ground.guard }], guard := some (24, true) }, { dst := some 111, op := Op.call { callee := Callee.value (Operand.func 23), args := #[Operand.tmp 110], argTypes := #[30] }, type := 32, pos := "law.go:214", after := #[{ on := 25, ground := Ground.data }, { on := 24, ground := Ground.chain }, { on := 24, ground := Ground.guard }], guard := some (24, true) }, { dst := some 112, op := Op.call { callee := Callee.builtin Builtin.len, args := #[Operand.tmp 111], argTypes := #[32] }, type := 3, pos := "law.go:214", after := #[{ on := 26, ground := Ground.data }, { on := 24, ground := Ground.guard }], guard := some (24, true) }, { dst := some 113, op := Op.load 30 (Operand.tmp 9), type := 30, pos := "law.go:214", after := #[{ on := 24, ground := Ground.guard }], guard := some (24, true) }, { dst := some 114, op := Op.call { callee := Callee.value (Operand.func 34), args := #[Operand.tmp 113], argTypes := #[30] }, type := 3, pos := "law.go:214", after := #[{ on := 28, ground := Ground.data }, { on := 26, ground := Ground.chain }, { on := 24, ground := Ground.guard }], guard := some (24, true) }, { dst := some 115, op := Op.binOp BinOp.eql 3 (Operand.tmp 112) (Operand.tmp 114) 3, type := 4, pos := "law.go:214", after := #[{ on := 27, ground := Ground.data }, { on := 29, ground := Ground.data }, { on := 24, ground := Ground.guard }], guard := some (24, true) }, { dst := some 116, op := Op.pick (Operand.tmp 109) (Operand.tmp 115) (Operand.const (Value.bool false)), type := 4, pos := "law.go:214", after := #[{ on := 24, ground := Ground.data }, { on := 30, ground := Ground.data }], guard := none }, { dst := some 6, op := Op.assign (Operand.tmp 116), type := 4, pos := "law.go:214", after := #[{ on := 31, ground := Ground.data }, { on := 29, ground := Ground.chain }, { on := 0, ground := Ground.phase }, { on := 1, ground := Ground.phase }, { on := 2, ground := Ground.phase }, { on := 3, ground := Ground.phase }, { on := 4, ground := Ground.phase }, { on := 5, ground := Ground.phase }, { on := 6, ground := Ground.phase }, { on := 7, ground := Ground.phase }, { on := 8, ground := Ground.phase }, { on := 9, ground := Ground.phase }, { on := 10, ground := Ground.phase }, { on := 11, ground := Ground.phase }, { on := 12, ground := Ground.phase }, { on := 13, ground := Ground.phase }, { on := 14, ground := Ground.phase }, { on := 15, ground := Ground.phase }, { on := 16, ground := Ground.phase }, { on := 17, ground := Ground.phase }, { on := 18, ground := Ground.phase }, { on := 19, ground := Ground.phase }, { on := 20, ground := Ground.phase }, { on := 21, ground := Ground.phase }, { on := 22, ground := Ground.phase }, { on := 23, ground := Ground.phase }, { on := 24, ground := Ground.phase }, { on := 25, ground := Ground.phase }, { on := 26, ground := Ground.phase }, { on := 27, ground := Ground.phase }, { on := 28, ground := Ground.phase }, { on := 29, ground := Ground.phase }, { on := 30, ground := Ground.phase }, { on := 31, ground := Ground.phase }], guard := none }] true).wp Try.prog Q a w := by
  have hmx : Try.prog.follows .mixedOrders = true := by kernel_rfl
  refine region_detR 33 hmx hr (by kernel_rfl) ?_
  refine DetR.is (o := { dst := some 85, op := Op.load 30 (Operand.tmp 9), type := 30, pos := "law.go:214", after := #[], guard := none }) (u := ?ux42) rfl (by decide) (fun T w' hb hd hB K hK => ?sx42) ?rx42
  case sx42 =>
    have e9 := (hB 9 (by kernel_rfl)).trans hT9
    have q9_0 : w'.cell? ⟨gz, 0, none⟩ = some (zf) := (blk_cell (blk_below hX9 hb) 0).trans rfl
    have q9_1 : w'.cell? ⟨gz, 1, none⟩ = some (zl) := (blk_cell (blk_below hX9 hb) 1).trans rfl
    rw [if_pos (wanted_none _ rfl)]
    clear hd hB
    go_simp
    exact hK _ (Below.refl _ _)
  refine DetR.is (o := { dst := some 86, op := Op.call { callee := Callee.value (Operand.func 34), args := #[Operand.tmp 85], argTypes := #[30] }, type := 3, pos := "law.go:214", after := #[{ on := 0, ground := Ground.data }], guard := none }) (u := ?ux43) rfl (by decide) (fun T w' hb hd hB K hK => ?sx43) ?rx43
  case sx43 =>
    have e85 := hd 0 85 _ (by decide) (by kernel_rfl) rfl rfl
    replace e85 : T.getD 85 undef = _ := e85
    rw [if_pos (wanted_none _ rfl)]
    have hcl := hF1 w' hb
    clear hd hB
    go_simp
    go_at_call 34
    refine hcl.mono ?_
    rintro e w2 ⟨rfl, h2⟩
    exact hK _ h2
  refine DetR.is (o := { dst := some 87, op := Op.load 30 (Operand.tmp 7), type := 30, pos := "law.go:214", after := #[], guard := none }) (u := ?ux44) rfl (by decide) (fun T w' hb hd hB K hK => ?sx44) ?rx44
  case sx44 =>
    have e7 := (hB 7 (by kernel_rfl)).trans hT7
    have q7_0 : w'.cell? ⟨ga, 0, none⟩ = some (xf) := (blk_cell (blk_below hX7 hb) 0).trans rfl
    have q7_1 : w'.cell? ⟨ga, 1, none⟩ = some (xl) := (blk_cell (blk_below hX7 hb) 1).trans rfl
    rw [if_pos (wanted_none _ rfl)]
    clear hd hB
    go_simp
    exact hK _ (Below.refl _ _)
  refine DetR.is (o := { dst := some 88, op := Op.call { callee := Callee.value (Operand.func 34), args := #[Operand.tmp 87], argTypes := #[30] }, type := 3, pos := "law.go:214", after := #[{ on := 2, ground := Ground.data }, { on := 1, ground := Ground.chain }], guard := none }) (u := ?ux45) rfl (by decide) (fun T w' hb hd hB K hK => ?sx45) ?rx45
  case sx45 =>
    have e87 := hd 2 87 _ (by decide) (by kernel_rfl) rfl rfl
    replace e87 : T.getD 87 undef = _ := e87
    rw [if_pos (wanted_none _ rfl)]
    have hcl := hF3 w' hb
    clear hd hB
    go_simp
    go_at_call 34
    refine hcl.mono ?_
    rintro e w2 ⟨rfl, h2⟩
    exact hK _ h2
  refine DetR.is (o := { dst := some 89, op := Op.binOp BinOp.add 3 (Operand.const (Value.int IntKind.i64 1)) (Operand.tmp 88) 3, type := 3, pos := "law.go:214", after := #[{ on := 3, ground := Ground.data }], guard := none }) (u := ?ux46) rfl (by decide) (fun T w' hb hd hB K hK => ?sx46) ?rx46
  case sx46 =>
    have e88 := hd 3 88 _ (by decide) (by kernel_rfl) rfl rfl
    replace e88 : T.getD 88 undef = _ := e88
    rw [if_pos (wanted_none _ rfl)]
    clear hd hB
    go_simp
    exact hK _ (Below.refl _ _)
  refine DetR.is (o := { dst := some 90, op := Op.load 30 (Operand.tmp 8), type := 30, pos := "law.go:214", after := #[], guard := none }) (u := ?ux47) rfl (by decide) (fun T w' hb hd hB K hK => ?sx47) ?rx47
  case sx47 =>
    have e8 := (hB 8 (by kernel_rfl)).trans hT8
    have q8_0 : w'.cell? ⟨gb, 0, none⟩ = some (yf) := (blk_cell (blk_below hX8 hb) 0).trans rfl
    have q8_1 : w'.cell? ⟨gb, 1, none⟩ = some (yl) := (blk_cell (blk_below hX8 hb) 1).trans rfl
    rw [if_pos (wanted_none _ rfl)]
    clear hd hB
    go_simp
    exact hK _ (Below.refl _ _)
  refine DetR.is (o := { dst := some 91, op := Op.call { callee := Callee.value (Operand.func 34), args := #[Operand.tmp 90], argTypes := #[30] }, type := 3, pos := "law.go:214", after := #[{ on := 5, ground := Ground.data }, { on := 3, ground := Ground.chain }], guard := none }) (u := ?ux48) rfl (by decide) (fun T w' hb hd hB K hK => ?sx48) ?rx48
  case sx48 =>
    have e90 := hd 5 90 _ (by decide) (by kernel_rfl) rfl rfl
    replace e90 : T.getD 90 undef = _ := e90
    rw [if_pos (wanted_none _ rfl)]
    have hcl := hF6 w' hb
    clear hd hB
    go_simp
    go_at_call 34
    refine hcl.mono ?_
    rintro e w2 ⟨rfl, h2⟩
    exact hK _ h2
  refine DetR.is (o := { dst := some 92, op := Op.binOp BinOp.add 3 (Operand.tmp 89) (Operand.tmp 91) 3, type := 3, pos := "law.go:214", after := #[{ on := 4, ground := Ground.data }, { on := 6, ground := Ground.data }], guard := none }) (u := ?ux49) rfl (by decide) (fun T w' hb hd hB K hK => ?sx49) ?rx49
  case sx49 =>
    have e89 := hd 4 89 _ (by decide) (by kernel_rfl) rfl rfl
    replace e89 : T.getD 89 undef = _ := e89
    have e91 := hd 6 91 _ (by decide) (by kernel_rfl) rfl rfl
    replace e91 : T.getD 91 undef = _ := e91
    rw [if_pos (wanted_none _ rfl)]
    clear hd hB
    go_simp
    exact hK _ (Below.refl _ _)
  refine DetR.is (o := { dst := some 93, op := Op.binOp BinOp.eql 3 (Operand.tmp 86) (Operand.tmp 92) 3, type := 4, pos := "law.go:214", after := #[{ on := 1, ground := Ground.data }, { on := 7, ground := Ground.data }], guard := none }) (u := .bool true) rfl (by decide) (fun T w' hb hd hB K hK => ?sx50) ?rx50
  case sx50 =>
    have e86 := hd 1 86 _ (by decide) (by kernel_rfl) rfl rfl
    replace e86 : T.getD 86 undef = _ := e86
    have e92 := hd 7 92 _ (by decide) (by kernel_rfl) rfl rfl
    replace e92 : T.getD 92 undef = _ := e92
    rw [if_pos (wanted_none _ rfl)]
    clear hd hB
    go_simp
    have hq : (1 + (sa : Int) + (sb : Int) == IntKind.i64.wrap (IntKind.i64.wrap (1 + (sa : Int)) + (sb : Int))) = true := by rw [beq_iff_eq]; simp only [i64_w]; unfold wrap64; omega
    rw [hq]
    exact hK _ (Below.refl _ _)
  refine DetR.is (o := { dst := some 94, op := Op.move (Operand.tmp 93), type := 4, pos := "law.go:214", after := #[{ on := 8, ground := Ground.data }, { on := 6, ground := Ground.chain }], guard := none }) (u := ?ux51) rfl (by decide) (fun T w' hb hd hB K hK => ?sx51) ?rx51
  case sx51 =>
    have e93 := hd 8 93 _ (by decide) (by kernel_rfl) rfl rfl
    replace e93 : T.getD 93 undef = _ := e93
    rw [if_pos (wanted_none _ rfl)]
    clear hd hB
    go_simp
    exact hK _ (Below.refl _ _)
  refine DetR.is (o := { dst := some 95, op := Op.load 30 (Operand.tmp 9), type := 30, pos := "law.go:214", after := #[{ on := 9, ground := Ground.guard }], guard := some (9, true) }) (u := ?ux52) rfl (by decide) (fun T w' hb hd hB K hK => ?sx52) ?rx52
  case sx52 =>
    have e9 := (hB 9 (by kernel_rfl)).trans hT9
    have q9_0 : w'.cell? ⟨gz, 0, none⟩ = some (zf) := (blk_cell (blk_below hX9 hb) 0).trans rfl
    have q9_1 : w'.cell? ⟨gz, 1, none⟩ = some (zl) := (blk_cell (blk_below hX9 hb) 1).trans rfl
    have eg := hd 9 94 _ (by decide) (by kernel_rfl) rfl rfl
    replace eg : T.getD 94 undef = .bool true := eg
    rw [if_pos (wanted_yes 9 94 true rfl rfl eg)]
    clear eg
    clear hd hB
    go_simp
    exact hK _ (Below.refl _ _)
  refine DetR.is (o := { dst := some 96, op := Op.move (Operand.tmp 2), type := 3, pos := "law.go:214", after := #[{ on := 9, ground := Ground.guard }], guard := some (9, true) }) (u := ?ux53) rfl (by decide) (fun T w' hb hd hB K hK => ?sx53) ?rx53
  case sx53 =>
    have e2 := (hB 2 (by kernel_rfl)).trans hT2
    have eg := hd 9 94 _ (by decide) (by kernel_rfl) rfl rfl
    replace eg : T.getD 94 undef = .bool true := eg
    rw [if_pos (wanted_yes 9 94 true rfl rfl eg)]
    clear eg
    clear hd hB
    go_simp
    exact hK _ (Below.refl _ _)
  refine DetR.is (o := { dst := some 97, op := Op.call { callee := Callee.value (Operand.func 35), args := #[Operand.tmp 95, Operand.tmp 96], argTypes := #[30, 3] }, type := 3, pos := "law.go:214", after := #[{ on := 10, ground := Ground.data }, { on := 11, ground := Ground.data }, { on := 9, ground := Ground.chain }, { on := 9, ground := Ground.guard }], guard := some (9, true) }) (u := ?ux54) rfl (by decide) (fun T w' hb hd hB K hK => ?sx54) ?rx54
  case sx54 =>
    have e95 := hd 10 95 _ (by decide) (by kernel_rfl) rfl rfl
    replace e95 : T.getD 95 undef = _ := e95
    have e96 := hd 11 96 _ (by decide) (by kernel_rfl) rfl rfl
    replace e96 : T.getD 96 undef = _ := e96
    have eg := hd 9 94 _ (by decide) (by kernel_rfl) rfl rfl
    replace eg : T.getD 94 undef = .bool true := eg
    rw [if_pos (wanted_yes 9 94 true rfl rfl eg)]
    clear eg
    have hcl := hF12 w' hb
    clear hd hB
    go_simp
    go_at_call 35
    refine hcl.mono ?_
    rintro e w2 ⟨rfl, h2⟩
    exact hK _ h2
  refine DetR.is (o := { dst := some 98, op := Op.move (Operand.tmp 10), type := 3, pos := "law.go:214", after := #[{ on := 9, ground := Ground.guard }], guard := some (9, true) }) (u := ?ux55) rfl (by decide) (fun T w' hb hd hB K hK => ?sx55) ?rx55
  case sx55 =>
    have e10 := (hB 10 (by kernel_rfl)).trans hT10
    have eg := hd 9 94 _ (by decide) (by kernel_rfl) rfl rfl
    replace eg : T.getD 94 undef = .bool true := eg
    rw [if_pos (wanted_yes 9 94 true rfl rfl eg)]
    clear eg
    clear hd hB
    go_simp
    exact hK _ (Below.refl _ _)
  refine DetR.is (o := { dst := some 99, op := Op.load 30 (Operand.tmp 7), type := 30, pos := "law.go:214", after := #[{ on := 9, ground := Ground.guard }], guard := some (9, true) }) (u := ?ux56) rfl (by decide) (fun T w' hb hd hB K hK => ?sx56) ?rx56
  case sx56 =>
    have e7 := (hB 7 (by kernel_rfl)).trans hT7
    have q7_0 : w'.cell? ⟨ga, 0, none⟩ = some (xf) := (blk_cell (blk_below hX7 hb) 0).trans rfl
    have q7_1 : w'.cell? ⟨ga, 1, none⟩ = some (xl) := (blk_cell (blk_below hX7 hb) 1).trans rfl
    have eg := hd 9 94 _ (by decide) (by kernel_rfl) rfl rfl
    replace eg : T.getD 94 undef = .bool true := eg
    rw [if_pos (wanted_yes 9 94 true rfl rfl eg)]
    clear eg
    clear hd hB
    go_simp
    exact hK _ (Below.refl _ _)
  refine DetR.is (o := { dst := some 100, op := Op.move (Operand.tmp 2), type := 3, pos := "law.go:214", after := #[{ on := 9, ground := Ground.guard }], guard := some (9, true) }) (u := ?ux57) rfl (by decide) (fun T w' hb hd hB K hK => ?sx57) ?rx57
  case sx57 =>
    have e2 := (hB 2 (by kernel_rfl)).trans hT2
    have eg := hd 9 94 _ (by decide) (by kernel_rfl) rfl rfl
    replace eg : T.getD 94 undef = .bool true := eg
    rw [if_pos (wanted_yes 9 94 true rfl rfl eg)]
    clear eg
    clear hd hB
    go_simp
    exact hK _ (Below.refl _ _)
  refine DetR.is (o := { dst := some 101, op := Op.call { callee := Callee.value (Operand.func 35), args := #[Operand.tmp 99, Operand.tmp 100], argTypes := #[30, 3] }, type := 3, pos := "law.go:214", after := #[{ on := 14, ground := Ground.data }, { on := 15, ground := Ground.data }, { on := 12, ground := Ground.chain }, { on := 9, ground := Ground.guard }], guard := some (9, true) }) (u := ?ux58) rfl (by decide) (fun T w' hb hd hB K hK => ?sx58) ?rx58
  case sx58 =>
    have e99 := hd 14 99 _ (by decide) (by kernel_rfl) rfl rfl
    replace e99 : T.getD 99 undef = _ := e99
    have e100 := hd 15 100 _ (by decide) (by kernel_rfl) rfl rfl
    replace e100 : T.getD 100 undef = _ := e100
    have eg := hd 9 94 _ (by decide) (by kernel_rfl) rfl rfl
    replace eg : T.getD 94 undef = .bool true := eg
    rw [if_pos (wanted_yes 9 94 true rfl rfl eg)]
    clear eg
    have hcl := hF16 w' hb
    clear hd hB
    go_simp
    go_at_call 35
    refine hcl.mono ?_
    rintro e w2 ⟨rfl, h2⟩
    exact hK _ h2
  refine DetR.is (o := { dst := some 102, op := Op.binOp BinOp.add 3 (Operand.tmp 98) (Operand.tmp 101) 3, type := 3, pos := "law.go:214", after := #[{ on := 13, ground := Ground.data }, { on := 16, ground := Ground.data }, { on := 9, ground := Ground.guard }], guard := some (9, true) }) (u := ?ux59) rfl (by decide) (fun T w' hb hd hB K hK => ?sx59) ?rx59
  case sx59 =>
    have e98 := hd 13 98 _ (by decide) (by kernel_rfl) rfl rfl
    replace e98 : T.getD 98 undef = _ := e98
    have e101 := hd 16 101 _ (by decide) (by kernel_rfl) rfl rfl
    replace e101 : T.getD 101 undef = _ := e101
    have eg := hd 9 94 _ (by decide) (by kernel_rfl) rfl rfl
    replace eg : T.getD 94 undef = .bool true := eg
    rw [if_pos (wanted_yes 9 94 true rfl rfl eg)]
    clear eg
    clear hd hB
    go_simp
    exact hK _ (Below.refl _ _)
  refine DetR.is (o := { dst := some 103, op := Op.load 30 (Operand.tmp 8), type := 30, pos := "law.go:214", after := #[{ on := 9, ground := Ground.guard }], guard := some (9, true) }) (u := ?ux60) rfl (by decide) (fun T w' hb hd hB K hK => ?sx60) ?rx60
  case sx60 =>
    have e8 := (hB 8 (by kernel_rfl)).trans hT8
    have q8_0 : w'.cell? ⟨gb, 0, none⟩ = some (yf) := (blk_cell (blk_below hX8 hb) 0).trans rfl
    have q8_1 : w'.cell? ⟨gb, 1, none⟩ = some (yl) := (blk_cell (blk_below hX8 hb) 1).trans rfl
    have eg := hd 9 94 _ (by decide) (by kernel_rfl) rfl rfl
    replace eg : T.getD 94 undef = .bool true := eg
    rw [if_pos (wanted_yes 9 94 true rfl rfl eg)]
    clear eg
    clear hd hB
    go_simp
    exact hK _ (Below.refl _ _)
  refine DetR.is (o := { dst := some 104, op := Op.move (Operand.tmp 2), type := 3, pos := "law.go:214", after := #[{ on := 9, ground := Ground.guard }], guard := some (9, true) }) (u := ?ux61) rfl (by decide) (fun T w' hb hd hB K hK => ?sx61) ?rx61
  case sx61 =>
    have e2 := (hB 2 (by kernel_rfl)).trans hT2
    have eg := hd 9 94 _ (by decide) (by kernel_rfl) rfl rfl
    replace eg : T.getD 94 undef = .bool true := eg
    rw [if_pos (wanted_yes 9 94 true rfl rfl eg)]
    clear eg
    clear hd hB
    go_simp
    exact hK _ (Below.refl _ _)
  refine DetR.is (o := { dst := some 105, op := Op.call { callee := Callee.value (Operand.func 35), args := #[Operand.tmp 103, Operand.tmp 104], argTypes := #[30, 3] }, type := 3, pos := "law.go:214", after := #[{ on := 18, ground := Ground.data }, { on := 19, ground := Ground.data }, { on := 16, ground := Ground.chain }, { on := 9, ground := Ground.guard }], guard := some (9, true) }) (u := ?ux62) rfl (by decide) (fun T w' hb hd hB K hK => ?sx62) ?rx62
  case sx62 =>
    have e103 := hd 18 103 _ (by decide) (by kernel_rfl) rfl rfl
    replace e103 : T.getD 103 undef = _ := e103
    have e104 := hd 19 104 _ (by decide) (by kernel_rfl) rfl rfl
    replace e104 : T.getD 104 undef = _ := e104
    have eg := hd 9 94 _ (by decide) (by kernel_rfl) rfl rfl
    replace eg : T.getD 94 undef = .bool true := eg
    rw [if_pos (wanted_yes 9 94 true rfl rfl eg)]
    clear eg
    have hcl := hF20 w' hb
    clear hd hB
    go_simp
    go_at_call 35
    refine hcl.mono ?_
    rintro e w2 ⟨rfl, h2⟩
    exact hK _ h2
  refine DetR.is (o := { dst := some 106, op := Op.binOp BinOp.add 3 (Operand.tmp 102) (Operand.tmp 105) 3, type := 3, pos := "law.go:214", after := #[{ on := 17, ground := Ground.data }, { on := 20, ground := Ground.data }, { on := 9, ground := Ground.guard }], guard := some (9, true) }) (u := ?ux63) rfl (by decide) (fun T w' hb hd hB K hK => ?sx63) ?rx63
  case sx63 =>
    have e102 := hd 17 102 _ (by decide) (by kernel_rfl) rfl rfl
    replace e102 : T.getD 102 undef = _ := e102
    have e105 := hd 20 105 _ (by decide) (by kernel_rfl) rfl rfl
    replace e105 : T.getD 105 undef = _ := e105
    have eg := hd 9 94 _ (by decide) (by kernel_rfl) rfl rfl
    replace eg : T.getD 94 undef = .bool true := eg
    rw [if_pos (wanted_yes 9 94 true rfl rfl eg)]
    clear eg
    clear hd hB
    go_simp
    exact hK _ (Below.refl _ _)
  refine DetR.is (o := { dst := some 107, op := Op.binOp BinOp.eql 3 (Operand.tmp 97) (Operand.tmp 106) 3, type := 4, pos := "law.go:214", after := #[{ on := 12, ground := Ground.data }, { on := 21, ground := Ground.data }, { on := 9, ground := Ground.guard }], guard := some (9, true) }) (u := .bool true) rfl (by decide) (fun T w' hb hd hB K hK => ?sx64) ?rx64
  case sx64 =>
    have e97 := hd 12 97 _ (by decide) (by kernel_rfl) rfl rfl
    replace e97 : T.getD 97 undef = _ := e97
    have e106 := hd 21 106 _ (by decide) (by kernel_rfl) rfl rfl
    replace e106 : T.getD 106 undef = _ := e106
    have eg := hd 9 94 _ (by decide) (by kernel_rfl) rfl rfl
    replace eg : T.getD 94 undef = .bool true := eg
    rw [if_pos (wanted_yes 9 94 true rfl rfl eg)]
    clear eg
    clear hd hB
    go_simp
    have hq : (nn + (ca : Int) + (cb : Int) == IntKind.i64.wrap (IntKind.i64.wrap (nn + (ca : Int)) + (cb : Int))) = true := by rw [beq_iff_eq]; simp only [i64_w]; unfold wrap64; omega
    rw [hq]
    exact hK _ (Below.refl _ _)
  refine DetR.is (o := { dst := some 108, op := Op.pick (Operand.tmp 94) (Operand.tmp 107) (Operand.const (Value.bool false)), type := 4, pos := "law.go:214", after := #[{ on := 9, ground := Ground.data }, { on := 22, ground := Ground.data }], guard := none }) (u := ?ux65) rfl (by decide) (fun T w' hb hd hB K hK => ?sx65) ?rx65
  case sx65 =>
    have e94 := hd 9 94 _ (by decide) (by kernel_rfl) rfl rfl
    replace e94 : T.getD 94 undef = _ := e94
    have e107 := hd 22 107 _ (by decide) (by kernel_rfl) rfl rfl
    replace e107 : T.getD 107 undef = _ := e107
    rw [if_pos (wanted_none _ rfl)]
    clear hd hB
    go_simp
    exact hK _ (Below.refl _ _)
  refine DetR.is (o := { dst := some 109, op := Op.move (Operand.tmp 108), type := 4, pos := "law.go:214", after := #[{ on := 23, ground := Ground.data }, { on := 20, ground := Ground.chain }], guard := none }) (u := ?ux66) rfl (by decide) (fun T w' hb hd hB K hK => ?sx66) ?rx66
  case sx66 =>
    have e108 := hd 23 108 _ (by decide) (by kernel_rfl) rfl rfl
    replace e108 : T.getD 108 undef = _ := e108
    rw [if_pos (wanted_none _ rfl)]
    clear hd hB
    go_simp
    exact hK _ (Below.refl _ _)
  refine DetR.is (o := { dst := some 110, op := Op.load 30 (Operand.tmp 9), type := 30, pos := "law.go:214", after := #[{ on := 24, ground := Ground.guard }], guard := some (24, true) }) (u := ?ux67) rfl (by decide) (fun T w' hb hd hB K hK => ?sx67) ?rx67
  case sx67 =>
    have e9 := (hB 9 (by kernel_rfl)).trans hT9
    have q9_0 : w'.cell? ⟨gz, 0, none⟩ = some (zf) := (blk_cell (blk_below hX9 hb) 0).trans rfl
    have q9_1 : w'.cell? ⟨gz, 1, none⟩ = some (zl) := (blk_cell (blk_below hX9 hb) 1).trans rfl
    have eg := hd 24 109 _ (by decide) (by kernel_rfl) rfl rfl
    replace eg : T.getD 109 undef = .bool true := eg
    rw [if_pos (wanted_yes 24 109 true rfl rfl eg)]
    clear eg
    clear hd hB
    go_simp
    exact hK _ (Below.refl _ _)
  refine DetR.cons (o := { dst := some 111, op := Op.call { callee := Callee.value (Operand.func 23), args := #[Operand.tmp 110], argTypes := #[30] }, type := 32, pos := "law.go:214", after := #[{ on := 25, ground := Ground.data }, { on := 24, ground := Ground.chain }, { on := 24, ground := Ground.guard }], guard := some (24, true) }) (RowTold (Kd.slice 3 (Kd.int .i64)) PZ) rfl (by decide) (RowTold.grows _ _) (fun T w' hb hd hB K hK => ?sx68) ?rx68
  case sx68 =>
    have e110 := hd 25 110 _ (by decide) (by kernel_rfl) rfl rfl
    replace e110 : T.getD 110 undef = _ := e110
    have eg := hd 24 109 _ (by decide) (by kernel_rfl) rfl rfl
    replace eg : T.getD 109 undef = .bool true := eg
    rw [if_pos (wanted_yes 24 109 true rfl rfl eg)]
    clear eg
    have hcl := hF26 w' hb
    clear hd hB
    go_simp
    go_at_call 23
    refine hcl.mono ?_
    rintro e w2 ⟨u, rfl, h1, h2⟩
    exact hK _ _ h2 h1
  refine DetR.is (o := { dst := some 112, op := Op.call { callee := Callee.builtin Builtin.len, args := #[Operand.tmp 111], argTypes := #[32] }, type := 3, pos := "law.go:214", after := #[{ on := 26, ground := Ground.data }, { on := 24, ground := Ground.guard }], guard := some (24, true) }) (u := ?ux69) rfl (by decide) (fun T w' hb hd hB K hK => ?sx69) ?rx69
  case sx69 =>
    obtain ⟨A111, c111, e111, hl111, hC111⟩ := (hd 26 111 _ (by decide) (by kernel_rfl) rfl rfl)
    have eg := hd 24 109 _ (by decide) (by kernel_rfl) rfl rfl
    replace eg : T.getD 109 undef = .bool true := eg
    rw [if_pos (wanted_yes 24 109 true rfl rfl eg)]
    clear eg
    clear hd hB
    go_simp
    exact hK _ (Below.refl _ _)
  refine DetR.is (o := { dst := some 113, op := Op.load 30 (Operand.tmp 9), type := 30, pos := "law.go:214", after := #[{ on := 24, ground := Ground.guard }], guard := some (24, true) }) (u := ?ux70) rfl (by decide) (fun T w' hb hd hB K hK => ?sx70) ?rx70
  case sx70 =>
    have e9 := (hB 9 (by kernel_rfl)).trans hT9
    have q9_0 : w'.cell? ⟨gz, 0, none⟩ = some (zf) := (blk_cell (blk_below hX9 hb) 0).trans rfl
    have q9_1 : w'.cell? ⟨gz, 1, none⟩ = some (zl) := (blk_cell (blk_below hX9 hb) 1).trans rfl
    have eg := hd 24 109 _ (by decide) (by kernel_rfl) rfl rfl
    replace eg : T.getD 109 undef = .bool true := eg
    rw [if_pos (wanted_yes 24 109 true rfl rfl eg)]
    clear eg
    clear hd hB
    go_simp
    exact hK _ (Below.refl _ _)
  refine DetR.is (o := { dst := some 114, op := Op.call { callee := Callee.value (Operand.func 34), args := #[Operand.tmp 113], argTypes := #[30] }, type := 3, pos := "law.go:214", after := #[{ on := 28, ground := Ground.data }, { on := 26, ground := Ground.chain }, { on := 24, ground := Ground.guard }], guard := some (24, true) }) (u := ?ux71) rfl (by decide) (fun T w' hb hd hB K hK => ?sx71) ?rx71
  case sx71 =>
    have e113 := hd 28 113 _ (by decide) (by kernel_rfl) rfl rfl
    replace e113 : T.getD 113 undef = _ := e113
    have eg := hd 24 109 _ (by decide) (by kernel_rfl) rfl rfl
    replace eg : T.getD 109 undef = .bool true := eg
    rw [if_pos (wanted_yes 24 109 true rfl rfl eg)]
    clear eg
    have hcl := hF29 w' hb
    clear hd hB
    go_simp
    go_at_call 34
    refine hcl.mono ?_
    rintro e w2 ⟨rfl, h2⟩
    exact hK _ h2
  refine DetR.is (o := { dst := some 115, op := Op.binOp BinOp.eql 3 (Operand.tmp 112) (Operand.tmp 114) 3, type := 4, pos := "law.go:214", after := #[{ on := 27, ground := Ground.data }, { on := 29, ground := Ground.data }, { on := 24, ground := Ground.guard }], guard := some (24, true) }) (u := .bool true) rfl (by decide) (fun T w' hb hd hB K hK => ?sx72) ?rx72
  case sx72 =>
    have e112 := hd 27 112 _ (by decide) (by kernel_rfl) rfl rfl
    replace e112 : T.getD 112 undef = _ := e112
    have e114 := hd 29 114 _ (by decide) (by kernel_rfl) rfl rfl
    replace e114 : T.getD 114 undef = _ := e114
    have eg := hd 24 109 _ (by decide) (by kernel_rfl) rfl rfl
    replace eg : T.getD 109 undef = .bool true := eg
    rw [if_pos (wanted_yes 24 109 true rfl rfl eg)]
    clear eg
    clear hd hB
    go_simp
    exact hK _ (Below.refl _ _)
  refine DetR.is (o := { dst := some 116, op := Op.pick (Operand.tmp 109) (Operand.tmp 115) (Operand.const (Value.bool false)), type := 4, pos := "law.go:214", after := #[{ on := 24, ground := Ground.data }, { on := 30, ground := Ground.data }], guard := none }) (u := ?ux73) rfl (by decide) (fun T w' hb hd hB K hK => ?sx73) ?rx73
  case sx73 =>
    have e109 := hd 24 109 _ (by decide) (by kernel_rfl) rfl rfl
    replace e109 : T.getD 109 undef = _ := e109
    have e115 := hd 30 115 _ (by decide) (by kernel_rfl) rfl rfl
    replace e115 : T.getD 115 undef = _ := e115
    rw [if_pos (wanted_none _ rfl)]
    clear hd hB
    go_simp
    exact hK _ (Below.refl _ _)
  refine DetR.is (o := { dst := some 6, op := Op.assign (Operand.tmp 116), type := 4, pos := "law.go:214", after := #[{ on := 31, ground := Ground.data }, { on := 29, ground := Ground.chain }, { on := 0, ground := Ground.phase }, { on := 1, ground := Ground.phase }, { on := 2, ground := Ground.phase }, { on := 3, ground := Ground.phase }, { on := 4, ground := Ground.phase }, { on := 5, ground := Ground.phase }, { on := 6, ground := Ground.phase }, { on := 7, ground := Ground.phase }, { on := 8, ground := Ground.phase }, { on := 9, ground := Ground.phase }, { on := 10, ground := Ground.phase }, { on := 11, ground := Ground.phase }, { on := 12, ground := Ground.phase }, { on := 13, ground := Ground.phase }, { on := 14, ground := Ground.phase }, { on := 15, ground := Ground.phase }, { on := 16, ground := Ground.phase }, { on := 17, ground := Ground.phase }, { on := 18, ground := Ground.phase }, { on := 19, ground := Ground.phase }, { on := 20, ground := Ground.phase }, { on := 21, ground := Ground.phase }, { on := 22, ground := Ground.phase }, { on := 23, ground := Ground.phase }, { on := 24, ground := Ground.phase }, { on := 25, ground := Ground.phase }, { on := 26, ground := Ground.phase }, { on := 27, ground := Ground.phase }, { on := 28, ground := Ground.phase }, { on := 29, ground := Ground.phase }, { on := 30, ground := Ground.phase }, { on := 31, ground := Ground.phase }], guard := none }) (u := ?ux74) rfl (by decide) (fun T w' hb hd hB K hK => ?sx74) ?rx74
  case sx74 =>
    have e116 := hd 31 116 _ (by decide) (by kernel_rfl) rfl rfl
    replace e116 : T.getD 116 undef = _ := e116
    rw [if_pos (wanted_none _ rfl)]
    clear hd hB
    go_simp
    exact hK _ (Below.refl _ _)
  refine DetR.done [some 85, some 86, some 87, some 88, some 89, some 90, some 91, some 92, some 93, some 94, some 95, some 96, some 97, some 98, some 99, some 100, some 101, some 102, some 103, some 104, some 105, some 106, some 107, some 108, some 109, some 110, some 111, some 112, some 113, some 114, some 115, some 116, some 6] (by kernel_rfl) rfl (by kernel_rfl) ?_
  intro v w' hb hv
  exact hK v w' hb (hv 32 _ (by decide) rfl)
end Go.Proofs.Ytpfddihcikiofaa.P
end
section
namespace Go.Proofs.Ytpfddihcikiofaa.P
open Go.RowKit Go.Proofs.YtpfddihcikiofaaW.PrintWords Go.Proofs.YtpfddihcikiofaaW.PrintLast Go.Proofs.YtpfddihcikiofaaW.PrintMore
set_option linter.unusedVariables false
set_option linter.unusedSimpArgs false
attribute [local go_sem] max2_int min2_int max_two min_two
theorem Vars_of {t : S30} (h : (nodes t).length ≤ 1099511627776) : term_Vars.f t.f0 t.f1 = some (varsN (nodes t)) := by
  unfold term_Vars.f
  rw [S30.eta, if_pos (by rw [flatP_len]; exact h), varsP_eq, flatP_snd]
theorem Size_of {t : S30} (h : (nodes t).length ≤ 1099511627776) : term_Size.f t.f0 t.f1 = some ((nodes t).length : Int) := by
  unfold term_Size.f
  rw [S30.eta, flatP_len, if_pos h]
theorem Count_of {t : S30} (f : Int) (h : (nodes t).length ≤ 1099511627776) : term_Count.f t.f0 t.f1 f = some (countN f (nodes t) : Int) := by
  unfold term_Count.f
  rw [S30.eta, flatP_len, if_pos h, countP_eq, flatP_snd]
  rfl
theorem Places_of {t : S30} (h : (nodes t).length ≤ 1099511627776) : term_Places.f t.f0 t.f1 = some ((flatP [] t).map Prod.fst) := by
  unfold term_Places.f
  rw [S30.eta, flatP_len, if_pos h]
theorem cell_lt {w : World} {a : Addr} {v : Value} (h : w.cell? a = some v) : a.block < w.heap.size := by
  unfold World.cell? at h
  rcases Nat.lt_or_ge a.block w.heap.size with hlt | hge
  · exact hlt
  · rw [Array.getElem?_eq_none hge] at h
    simp at h
theorem rd_pre {VZ VA s : List Int} (h : VZ = VA ++ s) (k : Nat) (hk : k < VA.length) : rd VZ (k : Int) = rd VA (k : Int) := by
  subst h
  simp [rd, List.getD_eq_getElem?_getD, List.getElem?_append_left hk]
set_option maxHeartbeats 8000000 in
set_option maxRecDepth 100000 in
theorem TermCounts_walk (a b : S24) (f : Int) (A : Option Addr) (c : Nat) (A' : Option Addr) (c' : Nat) (w : World) (hf : -9223372036854775808 ≤ f ∧ f ≤ 9223372036854775807)
    (hA : k24.C w A a.f1.length a.f1) (hc : a.f1.length ≤ c) (hA' : k24.C w A' b.f1.length b.f1) (hc' : b.f1.length ≤ c') :
    Calls Try.prog 4 #[.agg #[.int .i64 a.f0, .slice A a.f1.length c], .agg #[.int .i64 b.f0, .slice A' b.f1.length c'], .int .i64 f] w fun e w' => e = .returned (.bool true) ∧ Below w.heap.size w w' := by
  have hmx : Try.prog.follows .mixedOrders = true := by kernel_rfl
  obtain ⟨ok, hFine, hok⟩ := Fine_spec [a, b] (by simp)
  obtain ⟨kF, hF⟩ := hFine.rounds
  have hbA : Aside0 (∀ w1, Below w.heap.size w w1 → k24.C w1 A a.f1.length a.f1) := ⟨fun w1 h => Kd.C_below hA h⟩
  have hbB : Aside0 (∀ w1, Below w.heap.size w w1 → k24.C w1 A' b.f1.length b.f1) := ⟨fun w1 h => Kd.C_below hA' h⟩
  clear hA hA'
  go_enter Try.func4, Try.ntmps4
  cases ok with
  | false =>
    go_wp2_with (first | (go_at_call 20; refine (soriteslaw06_alive.calls true _ alive06).mono ?_; rintro e w1 ⟨rfl, hb1⟩; have hs1 := hb1.size; simp only [World.size_alloc] at hs1; have hB1 : Below w.heap.size w w1 := (below_alloc (below_alloc (Below.refl _ _) _) _).trans (hb1.mono (by simp; omega)); have hg0 : w1.heap[w.heap.size]? = some (.cells #[.int .i64 a.f0, .slice A a.f1.length c] 24 (0, 0)) := blk_below (blk_alloc (heap_alloc_new _ _) _) hb1; have hg1 : w1.heap[w.heap.size + 1]? = some (.cells #[.int .i64 b.f0, .slice A' b.f1.length c'] 24 (0, 0)) := blk_below (by have := heap_alloc_new (w.alloc (.cells #[.int .i64 a.f0, .slice A a.f1.length c] 24)) (.cells #[.int .i64 b.f0, .slice A' b.f1.length c'] 24); rw [World.size_alloc] at this; exact this) hb1; have hx00 : w1.cell? ⟨w.heap.size, 0, none⟩ = some (.int .i64 a.f0) := (blk_cell hg0 0).trans rfl; have hx01 : w1.cell? ⟨w.heap.size, 1, none⟩ = some (.slice A a.f1.length c) := (blk_cell hg0 1).trans rfl; have hx10 : w1.cell? ⟨w.heap.size + 1, 0, none⟩ = some (.int .i64 b.f0) := (blk_cell hg1 0).trans rfl; have hx11 : w1.cell? ⟨w.heap.size + 1, 1, none⟩ = some (.slice A' b.f1.length c') := (blk_cell hg1 1).trans rfl) | (go_at_call 21; refine (soriteslaw06_Fine.calls kF _ 2 [a, b] _ _ (C2 k24 rfl (K24 (hbA.out _ (below_alloc hB1 _)) hc) (K24 (hbB.out _ (below_alloc hB1 _)) hc') (heap_alloc_new _ _)) (by simp) hF).mono ?_; rintro e w2 ⟨rfl, hb2⟩; have hB2 : Below w.heap.size w w2 := (below_alloc hB1 _).trans (hb2.mono (by simp; omega)); have hg2 := blk_below (blk_alloc hg0 _) hb2; have hg3 := blk_below (blk_alloc hg1 _) hb2))
    go_ret
    exact ⟨rfl, hB2⟩
  | true =>
    go_wp2_with (first | (go_at_call 20; refine (soriteslaw06_alive.calls true _ alive06).mono ?_; rintro e w1 ⟨rfl, hb1⟩; have hs1 := hb1.size; simp only [World.size_alloc] at hs1; have hB1 : Below w.heap.size w w1 := (below_alloc (below_alloc (Below.refl _ _) _) _).trans (hb1.mono (by simp; omega)); have hg0 : w1.heap[w.heap.size]? = some (.cells #[.int .i64 a.f0, .slice A a.f1.length c] 24 (0, 0)) := blk_below (blk_alloc (heap_alloc_new _ _) _) hb1; have hg1 : w1.heap[w.heap.size + 1]? = some (.cells #[.int .i64 b.f0, .slice A' b.f1.length c'] 24 (0, 0)) := blk_below (by have := heap_alloc_new (w.alloc (.cells #[.int .i64 a.f0, .slice A a.f1.length c] 24)) (.cells #[.int .i64 b.f0, .slice A' b.f1.length c'] 24); rw [World.size_alloc] at this; exact this) hb1; have hx00 : w1.cell? ⟨w.heap.size, 0, none⟩ = some (.int .i64 a.f0) := (blk_cell hg0 0).trans rfl; have hx01 : w1.cell? ⟨w.heap.size, 1, none⟩ = some (.slice A a.f1.length c) := (blk_cell hg0 1).trans rfl; have hx10 : w1.cell? ⟨w.heap.size + 1, 0, none⟩ = some (.int .i64 b.f0) := (blk_cell hg1 0).trans rfl; have hx11 : w1.cell? ⟨w.heap.size + 1, 1, none⟩ = some (.slice A' b.f1.length c') := (blk_cell hg1 1).trans rfl) | (go_at_call 21; refine (soriteslaw06_Fine.calls kF _ 2 [a, b] _ _ (C2 k24 rfl (K24 (hbA.out _ (below_alloc hB1 _)) hc) (K24 (hbB.out _ (below_alloc hB1 _)) hc') (heap_alloc_new _ _)) (by simp) hF).mono ?_; rintro e w2 ⟨rfl, hb2⟩; have hB2 : Below w.heap.size w w2 := (below_alloc hB1 _).trans (hb2.mono (by simp; omega)); have hg2 := blk_below (blk_alloc hg0 _) hb2; have hg3 := blk_below (blk_alloc hg1 _) hb2))
    have hoka := hok trivial a (by simp)
    have hokb := hok trivial b (by simp)
    refine of_two (x0 := a) (x1 := b) (g0 := w.heap.size) (g1 := w.heap.size + 1) (by kernel_rfl) (by kernel_rfl) rfl hg2 (hbA.out _ hB2) hc hoka.1 rfl hg3 (hbB.out _ hB2) hc' hokb.1 ?_
    intro w3 X0 q0 h0 X1 q1 h1 hb3 hge0 hx0 hq0 hC0 hge1 hx1 hq1 hC1
    have hB3 : Below w.heap.size w w3 := hB2.trans (hb3.mono hB2.size)
    have hc00 : w3.cell? ⟨h0, 0, none⟩ = some (.int .i64 a.f0) := (blk_cell hx0 0).trans rfl
    have hc01 : w3.cell? ⟨h0, 1, none⟩ = some (.slice X0 a.f1.length q0) := (blk_cell hx0 1).trans rfl
    have hc10 : w3.cell? ⟨h1, 0, none⟩ = some (.int .i64 b.f0) := (blk_cell hx1 0).trans rfl
    have hc11 : w3.cell? ⟨h1, 1, none⟩ = some (.slice X1 b.f1.length q1) := (blk_cell hx1 1).trans rfl
    have hna := Nat.le_trans (nodes_le a) hoka.2
    have hnb := Nat.le_trans (nodes_le b) hokb.2
    have hnz : nodes ⟨77, [a, b]⟩ = ⟨77, [a, b]⟩ :: (nodes a ++ nodes b) := nodes_two 77 (by decide) a b
    have hnzl : (nodes ⟨77, [a, b]⟩).length = 1 + (nodes a).length + (nodes b).length := by rw [hnz]; simp; omega
    have hVz := Vars_of (t := ⟨77, [a, b]⟩) (by omega)
    have hVa := Vars_of (t := a) (by omega)
    have hVb := Vars_of (t := b) (by omega)
    have hvz : varsN (nodes ⟨77, [a, b]⟩) = varsN (nodes a ++ nodes b) := by rw [hnz]; rfl
    obtain ⟨hv1, hv2, hv3, hv4⟩ := vars_two (nodes a) (nodes b)
    rw [← hvz] at hv1 hv2 hv3 hv4
    have hlz : (varsN (nodes ⟨77, [a, b]⟩)).length ≤ 1000 := by have := varsP_len (flatP [] (⟨77, [a, b]⟩ : S30)); rw [varsP_eq, flatP_snd, flatP_len] at this; omega
    have hla : (varsN (nodes a)).length ≤ 1000 := by omega
    have hlb : (varsN (nodes b)).length ≤ 1000 := by omega
    have hTz := Top_spec ⟨77, [a, b]⟩ (by rw [flatP_len]; omega)
    have hTa := Top_spec a (by rw [flatP_len]; omega)
    have hTb := Top_spec b (by rw [flatP_len]; omega)
    have hTe := top_two (nodes a) (nodes b)
    rw [← hvz] at hTe
    obtain ⟨VZ, hVZ⟩ : ∃ l, l = varsN (nodes ⟨77, [a, b]⟩) := ⟨_, rfl⟩
    obtain ⟨VA, hVA⟩ : ∃ l, l = varsN (nodes a) := ⟨_, rfl⟩
    obtain ⟨VB, hVB⟩ : ∃ l, l = varsN (nodes b) := ⟨_, rfl⟩
    rw [← hVZ] at hVz hv1 hv2 hv3 hv4 hlz hTz hTe
    rw [← hVA] at hVa hv1 hv2 hv4 hla hTa hTe
    rw [← hVB] at hVb hv1 hv3 hlb hTb hTe
    obtain ⟨kz, hTz⟩ := hTz.rounds
    obtain ⟨ka, hTa⟩ := hTa.rounds
    obtain ⟨kb, hTb⟩ := hTb.rounds
    have hSz := Size_of (t := ⟨77, [a, b]⟩) (by omega)
    have hSa := Size_of (t := a) (by omega)
    have hSb := Size_of (t := b) (by omega)
    have hCoz := Count_of (t := ⟨77, [a, b]⟩) f (by omega)
    have hCoa := Count_of (t := a) f (by omega)
    have hCob := Count_of (t := b) f (by omega)
    have hPz := Places_of (t := ⟨77, [a, b]⟩) (by omega)
    have hPzl : ((flatP [] (⟨77, [a, b]⟩ : S30)).map Prod.fst).length = (nodes ⟨77, [a, b]⟩).length := by rw [List.length_map, flatP_len]
    have hcoe : countN f (nodes ⟨77, [a, b]⟩) = (if f == 77 then 1 else 0) + countN f (nodes a) + countN f (nodes b) := by
      rw [hnz]
      simp only [countN, List.filter_cons, List.filter_append]
      by_cases h : f = 77
      · subst h; simp; omega
      · have h2 : ¬ 77 = f := fun e => h e.symm
        simp [h, h2]
    have hcol := fun (l : List S30) => show countN f l ≤ l.length from List.length_filter_le _ _
    have hcoa := hcol (nodes a)
    have hcob := hcol (nodes b)
    obtain ⟨NZ, hNZ⟩ : ∃ n, n = (nodes ⟨77, [a, b]⟩).length := ⟨_, rfl⟩
    obtain ⟨NA, hNA⟩ : ∃ n, n = (nodes a).length := ⟨_, rfl⟩
    obtain ⟨NB, hNB⟩ : ∃ n, n = (nodes b).length := ⟨_, rfl⟩
    obtain ⟨CZ, hCZ⟩ : ∃ n, n = countN f (nodes ⟨77, [a, b]⟩) := ⟨_, rfl⟩
    obtain ⟨CA, hCA⟩ : ∃ n, n = countN f (nodes a) := ⟨_, rfl⟩
    obtain ⟨CB, hCB⟩ : ∃ n, n = countN f (nodes b) := ⟨_, rfl⟩
    obtain ⟨PZ, hPZ⟩ : ∃ l, l = (flatP [] (⟨77, [a, b]⟩ : S30)).map Prod.fst := ⟨_, rfl⟩
    rw [← hPZ] at hPz hPzl
    rw [← hNZ] at hSz hPzl hnzl
    rw [← hNA] at hSa hna hnzl hcoa
    rw [← hNB] at hSb hnb hnzl hcob
    rw [← hCZ] at hCoz hcoe
    rw [← hCA] at hCoa hcoe hcoa
    rw [← hCB] at hCob hcoe hcob
    clear hVZ hVA hVB hNZ hNA hNB hCZ hCA hCB hPZ hcol hnz hvz
    obtain ⟨TZ, hTZ⟩ : ∃ n, n = top VZ := ⟨_, rfl⟩
    obtain ⟨TA, hTA⟩ : ∃ n, n = top VA := ⟨_, rfl⟩
    obtain ⟨TB, hTB⟩ : ∃ n, n = top VB := ⟨_, rfl⟩
    rw [← hTZ] at hTz hTe
    rw [← hTA] at hTa hTe
    rw [← hTB] at hTb hTe
    clear hTZ hTA hTB
    have FV := Aside0.mk (And.intro hVz (And.intro hVa hVb))
    have FL := Aside0.mk (And.intro hlz (And.intro hla hlb))
    have FI := Aside0.mk (And.intro hv1 (And.intro hv2 (And.intro hv3 hv4)))
    have FT := Aside0.mk (And.intro hTz (And.intro hTa (And.intro hTb hTe)))
    have FS := Aside0.mk (And.intro hSz (And.intro hSa (And.intro hSb hnzl)))
    have FC := Aside0.mk (And.intro hCoz (And.intro hCoa (And.intro hCob hcoe)))
    have FB := Aside0.mk (And.intro hna (And.intro hnb (And.intro hcoa hcob)))
    have FP := Aside0.mk (And.intro hPz hPzl)
    clear hVz hVa hVb hlz hla hlb hv1 hv2 hv3 hv4 hTz hTa hTb hTe hSz hSa hSb hnzl hCoz hCoa hCob hcoe hna hnb hcoa hcob hPz hPzl hoka hokb hok
    obtain ⟨w4, hw4⟩ : ∃ W, W = (w3.alloc (.cells #[.int .i64 a.f0, .slice X0 a.f1.length q0, .int .i64 b.f0, .slice X1 b.f1.length q1] 30)).alloc (.cells #[.int .i64 77, .slice (some ⟨w3.heap.size, 0, none⟩) 2 2] 30) := ⟨_, rfl⟩
    have hb4 : Below w3.heap.size w3 w4 := by rw [hw4]; exact below_alloc (below_alloc (Below.refl _ _) _) _
    have hzs : w4.heap[w3.heap.size]? = some (.cells #[.int .i64 a.f0, .slice X0 a.f1.length q0, .int .i64 b.f0, .slice X1 b.f1.length q1] 30 (0, 0)) := by
      rw [hw4]
      exact blk_alloc (heap_alloc_new _ _) _
    have hzb : w4.heap[w3.heap.size + 1]? = some (.cells #[.int .i64 77, .slice (some ⟨w3.heap.size, 0, none⟩) 2 2] 30 (0, 0)) := by
      rw [hw4]
      have h1 := heap_alloc_new (w3.alloc (.cells #[.int .i64 a.f0, .slice X0 a.f1.length q0, .int .i64 b.f0, .slice X1 b.f1.length q1] 30)) (.cells #[.int .i64 77, .slice (some ⟨w3.heap.size, 0, none⟩) 2 2] 30)
      rw [World.size_alloc] at h1
      exact h1
    have hCz : k30.C w4 (some ⟨w3.heap.size, 0, none⟩) 2 [a, b] := C2 k30 rfl (K30 (Kd.C_below hC0 hb4) hq0) (K30 (Kd.C_below hC1 hb4) hq1) hzs
    have hB4 : Below w.heap.size w w4 := hB3.trans (hb4.mono hB3.size)
    have HCz := Aside0.mk hCz
    have HC0 := Aside0.mk (Kd.C_below hC0 hb4)
    have HC1 := Aside0.mk (Kd.C_below hC1 hb4)
    have HX0 := Aside0.mk (blk_below hx0 hb4)
    have HX1 := Aside0.mk (blk_below hx1 hb4)
    have HZB := Aside0.mk hzb
    have HB4 := Aside0.mk hB4
    have hw4z := Aside0.mk hw4
    clear hCz hC0 hC1 hzb hzs hB3 hB4 hb4 hx0 hx1 hb3 hg0 hg1 hg2 hg3 hx00 hx01 hx10 hx11 hB1 hB2 hb1 hb2 hw4 hFine hF
    by_cases hf77 : (f == 77) = true
    all_goals (try replace hf77 : (f == 77) = false := by simpa using hf77)
    all_goals (go_wp2_with ((go_at_call 32; rw [← hw4z.out]; refine (term_Vars.calls 77 (some ⟨w3.heap.size, 0, none⟩) 2 [a, b] _ w4 HCz.out (by simp) FV.out.1).mono ?_; rintro e w5 ⟨v5, rfl, hR5, hb5⟩; obtain ⟨Az, cz, rfl⟩ := Kd.R_slice hR5; have hr5 := Kd.R_reads' hR5; have HR5 := Aside0.mk hr5.2.2; have hcz := hr5.2.1; have hb5 := Aside0.mk hb5; clear hr5 hR5)))
    · skip
      refine region_detR 6 hmx (by kernel_rfl) (by kernel_rfl) ?_
      refine DetR.is (u := ?ux1) rfl (by decide) (fun T w' hb hd hB K hK => ?sx1) ?rx1
      case sx1 =>
        have e7 : T.getD 7 undef = .pointer (some ⟨h0, 0, none⟩) := hB 7 (by kernel_rfl)
        have q7_0 : w'.cell? ⟨h0, 0, none⟩ = some (.int .i64 a.f0) := (blk_cell (blk_below (blk_below HX0.out hb5.out) hb) 0).trans rfl
        have q7_1 : w'.cell? ⟨h0, 1, none⟩ = some (.slice X0 a.f1.length q0) := (blk_cell (blk_below (blk_below HX0.out hb5.out) hb) 1).trans rfl
        clear hd hB
        go_simp
        exact hK _ (Below.refl _ _)
      refine DetR.cons (RowTold (Kd.int .i64) (VA)) rfl (by decide) (RowTold.grows _ _) (fun T w' hb hd hB K hK => ?sx2) ?rx2
      case sx2 =>
        have e34 := hd 0 34 _ (by decide) (by kernel_rfl) rfl rfl
        replace e34 : T.getD 34 undef = _ := e34
        clear hd hB
        go_simp
        go_at_call 32
        refine (term_Vars.calls _ _ _ a.f1 _ w' (Kd.C_below (Kd.C_below HC0.out hb5.out) hb) hq0 FV.out.2.1).mono ?_
        rintro e w2 ⟨v1, rfl, h1, h2⟩
        exact hK _ _ h2 (RowTold.of h1)
      refine DetR.is (u := ?ux3) rfl (by decide) (fun T w' hb hd hB K hK => ?sx3) ?rx3
      case sx3 =>
        have e8 : T.getD 8 undef = .pointer (some ⟨h1, 0, none⟩) := hB 8 (by kernel_rfl)
        have q8_0 : w'.cell? ⟨h1, 0, none⟩ = some (.int .i64 b.f0) := (blk_cell (blk_below (blk_below HX1.out hb5.out) hb) 0).trans rfl
        have q8_1 : w'.cell? ⟨h1, 1, none⟩ = some (.slice X1 b.f1.length q1) := (blk_cell (blk_below (blk_below HX1.out hb5.out) hb) 1).trans rfl
        clear hd hB
        go_simp
        exact hK _ (Below.refl _ _)
      refine DetR.cons (RowTold (Kd.int .i64) (VB)) rfl (by decide) (RowTold.grows _ _) (fun T w' hb hd hB K hK => ?sx4) ?rx4
      case sx4 =>
        have e36 := hd 2 36 _ (by decide) (by kernel_rfl) rfl rfl
        replace e36 : T.getD 36 undef = _ := e36
        clear hd hB
        go_simp
        go_at_call 32
        refine (term_Vars.calls _ _ _ b.f1 _ w' (Kd.C_below (Kd.C_below HC1.out hb5.out) hb) hq1 FV.out.2.2).mono ?_
        rintro e w2 ⟨v1, rfl, h1, h2⟩
        exact hK _ _ h2 (RowTold.of h1)
      refine DetR.cons (RowTold (Kd.int .i64) (VA)) rfl (by decide) (RowTold.grows _ _) (fun T w' hb hd hB K hK => ?sx5) ?rx5
      case sx5 =>
        obtain ⟨A35, c35, e35, hl35, hC35⟩ := (hd 1 35 _ (by decide) (by kernel_rfl) rfl rfl)
        clear hd hB
        go_simp
        exact hK _ _ (Below.refl _ _) ⟨_, _, rfl, by assumption, by assumption⟩
      refine DetR.cons (RowTold (Kd.int .i64) (VB)) rfl (by decide) (RowTold.grows _ _) (fun T w' hb hd hB K hK => ?sx6) ?rx6
      case sx6 =>
        obtain ⟨A37, c37, e37, hl37, hC37⟩ := (hd 3 37 _ (by decide) (by kernel_rfl) rfl rfl)
        clear hd hB
        go_simp
        exact hK _ _ (Below.refl _ _) ⟨_, _, rfl, by assumption, by assumption⟩
      refine DetR.done [some 34, some 35, some 36, some 37, some 12, some 13] (by kernel_rfl) rfl (by kernel_rfl) ?_
      intro v w6 hb6 hv
      have f0 := hv 0 _ (by decide) rfl
      replace f0 : v 0 = _ := f0
      obtain ⟨Aw6_1, cw6_1, f1, hlw6_1, hCw6_1⟩ := hv 1 _ (by decide) rfl
      have f2 := hv 2 _ (by decide) rfl
      replace f2 : v 2 = _ := f2
      obtain ⟨Aw6_3, cw6_3, f3, hlw6_3, hCw6_3⟩ := hv 3 _ (by decide) rfl
      obtain ⟨Ap, cp, f4, hlp, hCp⟩ := hv 4 _ (by decide) rfl
      obtain ⟨Aq, cq, f5, hlq, hCq⟩ := hv 5 _ (by decide) rfl
      simp only [layL, Nat.reduceAdd, List.setIfInBounds_toArray, List.set_cons_zero, List.set_cons_succ, f0, f1, f2, f3, f4, f5]
      clear hv f0 f1 f2 f3 f4 f5
      clear hCw6_1 hCw6_3 hlw6_1 hlw6_3
      have HCp := Aside0.mk hCp
      have HCq := Aside0.mk hCq
      have hb6 := Aside0.mk hb6
      clear hCp hCq
      go_wp2
      refine TermCounts_r12 (nz := VZ.length) (np := VA.length) (nq := VB.length) (by kernel_rfl) rfl rfl rfl rfl (blk_below (blk_below HZB.out hb5.out) hb6.out) rfl (blk_below (blk_below HX0.out hb5.out) hb6.out) rfl (blk_below (blk_below HX1.out hb5.out) hb6.out) ?_ ?_ ?_ (by have := FI.out.1; omega) FI.out.2.1 FI.out.2.2.1 FL.out.1 FT.out.2.2.2 ?_
      · intro w1 hb; exact term_Top.calls kz 77 _ _ [a, b] TZ w1 (Kd.C_below (Kd.C_below (Kd.C_below HCz.out hb5.out) hb6.out) hb) (by simp) FT.out.1
      · intro w1 hb; exact term_Top.calls ka _ _ _ a.f1 TA w1 (Kd.C_below (Kd.C_below (Kd.C_below HC0.out hb5.out) hb6.out) hb) hq0 FT.out.2.1
      · intro w1 hb; exact term_Top.calls kb _ _ _ b.f1 TB w1 (Kd.C_below (Kd.C_below (Kd.C_below HC1.out hb5.out) hb6.out) hb) hq1 FT.out.2.2.1
      intro v w7 hb7 hv31
      simp only [layL, Nat.reduceAdd, List.setIfInBounds_toArray, List.set_cons_zero, List.set_cons_succ, hv31]
      clear hv31
      have hb7 := Aside0.mk hb7
      generalize v 0 = y0
      generalize v 1 = y1
      generalize v 2 = y2
      generalize v 3 = y3
      generalize v 4 = y4
      generalize v 5 = y5
      generalize v 6 = y6
      generalize v 7 = y7
      generalize v 8 = y8
      generalize v 9 = y9
      generalize v 10 = y10
      generalize v 11 = y11
      generalize v 12 = y12
      generalize v 13 = y13
      generalize v 14 = y14
      generalize v 15 = y15
      generalize v 16 = y16
      generalize v 17 = y17
      generalize v 18 = y18
      generalize v 19 = y19
      generalize v 20 = y20
      generalize v 21 = y21
      generalize v 22 = y22
      generalize v 23 = y23
      generalize v 24 = y24
      generalize v 25 = y25
      generalize v 26 = y26
      generalize v 27 = y27
      generalize v 28 = y28
      generalize v 29 = y29
      generalize v 30 = y30
      clear v
      have hlA := FL.out.2.1
      have HRz := Aside0.mk (Kd.C_below (Kd.C_below HR5.out hb6.out) hb7.out)
      have HCp7 := Aside0.mk (Kd.C_below HCp.out hb7.out)
      have HCz7 := Aside0.mk (Kd.C_below (Kd.C_below (Kd.C_below HCz.out hb5.out) hb6.out) hb7.out)
      have HC07 := Aside0.mk (Kd.C_below (Kd.C_below (Kd.C_below HC0.out hb5.out) hb6.out) hb7.out)
      have HC17 := Aside0.mk (Kd.C_below (Kd.C_below (Kd.C_below HC1.out hb5.out) hb6.out) hb7.out)
      have HZB7 := Aside0.mk (blk_below (blk_below (blk_below HZB.out hb5.out) hb6.out) hb7.out)
      have HX07 := Aside0.mk (blk_below (blk_below (blk_below HX0.out hb5.out) hb6.out) hb7.out)
      have HX17 := Aside0.mk (blk_below (blk_below (blk_below HX1.out hb5.out) hb6.out) hb7.out)
      have HB7 := Aside0.mk (((HB4.out.trans (hb5.out.mono HB4.out.size)).trans (hb6.out.mono (Nat.le_trans HB4.out.size hb5.out.size))).trans (hb7.out.mono (Nat.le_trans (Nat.le_trans HB4.out.size hb5.out.size) hb6.out.size)))
      clear HR5 HCp HCq HCz HC0 HC1 HZB HX0 HX1 hb5 hb6 hb7 hw4z HB4 hbA hbB
      go_wp2
      go_loopw [14] (fun i wr => ∃ k : Nat, k ≤ VA.length ∧ i = .int .i64 k ∧ Aside0 (Below w7.heap.size w7 wr)) (fun i wr => VA.length - (intOf i).toNat)
      case atStart => exact ⟨0, Nat.zero_le _, rfl, ⟨Below.refl _ _⟩⟩
      case round =>
        obtain ⟨k, hk, rfl, hbr⟩ := hrel
        by_cases hlt : k < VA.length
        · obtain ⟨az, rfl, hz⟩ := Kd.at_int (Kd.C_below HRz.out hbr.out) (k : Int) (by omega) (by have := FI.out.2.1; omega)
          obtain ⟨ap, rfl, hp⟩ := Kd.at_int (Kd.C_below HCp7.out hbr.out) (k : Int) (by omega) (by omega)
          obtain ⟨sx, hsx⟩ := FI.out.2.2.2
          rw [rd_pre hsx k hlt] at hz
          have hzz := Aside0.mk hz
          have hpp := Aside0.mk hp
          clear hz hp hsx sx
          go_wp2
          refine TermCounts_r17 (nz := VZ.length) (np := VA.length) (i := (k : Int)) (x := rd VA (k : Int)) (by kernel_rfl) rfl rfl rfl (by omega) (by have := FI.out.2.1; omega) (by omega) FL.out.1 hcz hlp hzz.out hpp.out (cell_lt hzz.out) (cell_lt hpp.out) ?_
          intro v w8 hb8 hv8
          simp only [layL, Nat.reduceAdd, List.setIfInBounds_toArray, List.set_cons_zero, List.set_cons_succ, hv8]
          have hbr8 := Aside0.mk (hbr.out.trans (hb8.mono hbr.out.size))
          clear hv8 hb8 hzz hpp
          go_wp2
          go_roundw
          case rel => exact ⟨k + 1, by omega, by go_num, hbr8⟩
          case measure => simp [intOf]; omega
        · have hke : k = VA.length := by omega
          go_wp2
          have hcn := FC.out.2.2.2
          rw [hf77] at hcn
          simp only [if_true, ite_true, reduceIte] at hcn
          refine TermCounts_r19 (f := f) (nn := 1) (sz := NZ) (sa := NA) (sb := NB) (cz := CZ) (ca := CA) (cb := CB) (PZ := PZ) (by kernel_rfl) rfl rfl rfl (blk_below HZB7.out hbr.out) rfl (blk_below HX07.out hbr.out) rfl (blk_below HX17.out hbr.out) ?_ ?_ ?_ ?_ ?_ ?_ ?_ ?_ FS.out.2.2.2 (by omega) (FP.out.2.trans rfl) FB.out.1 FB.out.2.1 (Nat.le_trans FB.out.2.2.1 FB.out.1) (Nat.le_trans FB.out.2.2.2 FB.out.2.1) (by omega) ?_
          · intro w1 hb; exact term_Size.calls 77 _ _ [a, b] NZ w1 (Kd.C_below (Kd.C_below HCz7.out hbr.out) hb) (by simp) FS.out.1
          · intro w1 hb; exact term_Size.calls _ _ _ a.f1 NA w1 (Kd.C_below (Kd.C_below HC07.out hbr.out) hb) hq0 FS.out.2.1
          · intro w1 hb; exact term_Size.calls _ _ _ b.f1 NB w1 (Kd.C_below (Kd.C_below HC17.out hbr.out) hb) hq1 FS.out.2.2.1
          · intro w1 hb; exact term_Count.calls 77 _ _ [a, b] f CZ w1 (Kd.C_below (Kd.C_below HCz7.out hbr.out) hb) (by simp) FC.out.1
          · intro w1 hb; exact term_Count.calls _ _ _ a.f1 f CA w1 (Kd.C_below (Kd.C_below HC07.out hbr.out) hb) hq0 FC.out.2.1
          · intro w1 hb; exact term_Count.calls _ _ _ b.f1 f CB w1 (Kd.C_below (Kd.C_below HC17.out hbr.out) hb) hq1 FC.out.2.2.1
          · intro w1 hb; exact (term_Places.calls 77 _ _ [a, b] PZ w1 (Kd.C_below (Kd.C_below HCz7.out hbr.out) hb) (by simp) FP.out.1).mono (fun e w2 ⟨v, h1, h2, h3⟩ => ⟨v, h1, RowTold.of h2, h3⟩)
          · intro w1 hb; exact term_Size.calls 77 _ _ [a, b] NZ w1 (Kd.C_below (Kd.C_below HCz7.out hbr.out) hb) (by simp) FS.out.1
          intro v w9 hb9 hv32
          simp only [layL, Nat.reduceAdd, List.setIfInBounds_toArray, List.set_cons_zero, List.set_cons_succ, hv32]
          have hb9 := Aside0.mk hb9
          clear hv32
          go_wp2
          go_ret
          exact ⟨rfl, (HB7.out.trans (hbr.out.mono HB7.out.size)).trans (hb9.out.mono (Nat.le_trans HB7.out.size hbr.out.size))⟩
    · skip
      refine region_detR 6 hmx (by kernel_rfl) (by kernel_rfl) ?_
      refine DetR.is (u := ?ux91) rfl (by decide) (fun T w' hb hd hB K hK => ?sx91) ?rx91
      case sx91 =>
        have e7 : T.getD 7 undef = .pointer (some ⟨h0, 0, none⟩) := hB 7 (by kernel_rfl)
        have q7_0 : w'.cell? ⟨h0, 0, none⟩ = some (.int .i64 a.f0) := (blk_cell (blk_below (blk_below HX0.out hb5.out) hb) 0).trans rfl
        have q7_1 : w'.cell? ⟨h0, 1, none⟩ = some (.slice X0 a.f1.length q0) := (blk_cell (blk_below (blk_below HX0.out hb5.out) hb) 1).trans rfl
        clear hd hB
        go_simp
        exact hK _ (Below.refl _ _)
      refine DetR.cons (RowTold (Kd.int .i64) (VA)) rfl (by decide) (RowTold.grows _ _) (fun T w' hb hd hB K hK => ?sx92) ?rx92
      case sx92 =>
        have e34 := hd 0 34 _ (by decide) (by kernel_rfl) rfl rfl
        replace e34 : T.getD 34 undef = _ := e34
        clear hd hB
        go_simp
        go_at_call 32
        refine (term_Vars.calls _ _ _ a.f1 _ w' (Kd.C_below (Kd.C_below HC0.out hb5.out) hb) hq0 FV.out.2.1).mono ?_
        rintro e w2 ⟨v1, rfl, h1, h2⟩
        exact hK _ _ h2 (RowTold.of h1)
      refine DetR.is (u := ?ux93) rfl (by decide) (fun T w' hb hd hB K hK => ?sx93) ?rx93
      case sx93 =>
        have e8 : T.getD 8 undef = .pointer (some ⟨h1, 0, none⟩) := hB 8 (by kernel_rfl)
        have q8_0 : w'.cell? ⟨h1, 0, none⟩ = some (.int .i64 b.f0) := (blk_cell (blk_below (blk_below HX1.out hb5.out) hb) 0).trans rfl
        have q8_1 : w'.cell? ⟨h1, 1, none⟩ = some (.slice X1 b.f1.length q1) := (blk_cell (blk_below (blk_below HX1.out hb5.out) hb) 1).trans rfl
        clear hd hB
        go_simp
        exact hK _ (Below.refl _ _)
      refine DetR.cons (RowTold (Kd.int .i64) (VB)) rfl (by decide) (RowTold.grows _ _) (fun T w' hb hd hB K hK => ?sx94) ?rx94
      case sx94 =>
        have e36 := hd 2 36 _ (by decide) (by kernel_rfl) rfl rfl
        replace e36 : T.getD 36 undef = _ := e36
        clear hd hB
        go_simp
        go_at_call 32
        refine (term_Vars.calls _ _ _ b.f1 _ w' (Kd.C_below (Kd.C_below HC1.out hb5.out) hb) hq1 FV.out.2.2).mono ?_
        rintro e w2 ⟨v1, rfl, h1, h2⟩
        exact hK _ _ h2 (RowTold.of h1)
      refine DetR.cons (RowTold (Kd.int .i64) (VA)) rfl (by decide) (RowTold.grows _ _) (fun T w' hb hd hB K hK => ?sx95) ?rx95
      case sx95 =>
        obtain ⟨A35, c35, e35, hl35, hC35⟩ := (hd 1 35 _ (by decide) (by kernel_rfl) rfl rfl)
        clear hd hB
        go_simp
        exact hK _ _ (Below.refl _ _) ⟨_, _, rfl, by assumption, by assumption⟩
      refine DetR.cons (RowTold (Kd.int .i64) (VB)) rfl (by decide) (RowTold.grows _ _) (fun T w' hb hd hB K hK => ?sx96) ?rx96
      case sx96 =>
        obtain ⟨A37, c37, e37, hl37, hC37⟩ := (hd 3 37 _ (by decide) (by kernel_rfl) rfl rfl)
        clear hd hB
        go_simp
        exact hK _ _ (Below.refl _ _) ⟨_, _, rfl, by assumption, by assumption⟩
      refine DetR.done [some 34, some 35, some 36, some 37, some 12, some 13] (by kernel_rfl) rfl (by kernel_rfl) ?_
      intro v w6 hb6 hv
      have f0 := hv 0 _ (by decide) rfl
      replace f0 : v 0 = _ := f0
      obtain ⟨Aw6_1, cw6_1, f1, hlw6_1, hCw6_1⟩ := hv 1 _ (by decide) rfl
      have f2 := hv 2 _ (by decide) rfl
      replace f2 : v 2 = _ := f2
      obtain ⟨Aw6_3, cw6_3, f3, hlw6_3, hCw6_3⟩ := hv 3 _ (by decide) rfl
      obtain ⟨Ap, cp, f4, hlp, hCp⟩ := hv 4 _ (by decide) rfl
      obtain ⟨Aq, cq, f5, hlq, hCq⟩ := hv 5 _ (by decide) rfl
      simp only [layL, Nat.reduceAdd, List.setIfInBounds_toArray, List.set_cons_zero, List.set_cons_succ, f0, f1, f2, f3, f4, f5]
      clear hv f0 f1 f2 f3 f4 f5
      clear hCw6_1 hCw6_3 hlw6_1 hlw6_3
      have HCp := Aside0.mk hCp
      have HCq := Aside0.mk hCq
      have hb6 := Aside0.mk hb6
      clear hCp hCq
      go_wp2
      refine TermCounts_r12 (nz := VZ.length) (np := VA.length) (nq := VB.length) (by kernel_rfl) rfl rfl rfl rfl (blk_below (blk_below HZB.out hb5.out) hb6.out) rfl (blk_below (blk_below HX0.out hb5.out) hb6.out) rfl (blk_below (blk_below HX1.out hb5.out) hb6.out) ?_ ?_ ?_ (by have := FI.out.1; omega) FI.out.2.1 FI.out.2.2.1 FL.out.1 FT.out.2.2.2 ?_
      · intro w1 hb; exact term_Top.calls kz 77 _ _ [a, b] TZ w1 (Kd.C_below (Kd.C_below (Kd.C_below HCz.out hb5.out) hb6.out) hb) (by simp) FT.out.1
      · intro w1 hb; exact term_Top.calls ka _ _ _ a.f1 TA w1 (Kd.C_below (Kd.C_below (Kd.C_below HC0.out hb5.out) hb6.out) hb) hq0 FT.out.2.1
      · intro w1 hb; exact term_Top.calls kb _ _ _ b.f1 TB w1 (Kd.C_below (Kd.C_below (Kd.C_below HC1.out hb5.out) hb6.out) hb) hq1 FT.out.2.2.1
      intro v w7 hb7 hv31
      simp only [layL, Nat.reduceAdd, List.setIfInBounds_toArray, List.set_cons_zero, List.set_cons_succ, hv31]
      clear hv31
      have hb7 := Aside0.mk hb7
      generalize v 0 = y0
      generalize v 1 = y1
      generalize v 2 = y2
      generalize v 3 = y3
      generalize v 4 = y4
      generalize v 5 = y5
      generalize v 6 = y6
      generalize v 7 = y7
      generalize v 8 = y8
      generalize v 9 = y9
      generalize v 10 = y10
      generalize v 11 = y11
      generalize v 12 = y12
      generalize v 13 = y13
      generalize v 14 = y14
      generalize v 15 = y15
      generalize v 16 = y16
      generalize v 17 = y17
      generalize v 18 = y18
      generalize v 19 = y19
      generalize v 20 = y20
      generalize v 21 = y21
      generalize v 22 = y22
      generalize v 23 = y23
      generalize v 24 = y24
      generalize v 25 = y25
      generalize v 26 = y26
      generalize v 27 = y27
      generalize v 28 = y28
      generalize v 29 = y29
      generalize v 30 = y30
      clear v
      have hlA := FL.out.2.1
      have HRz := Aside0.mk (Kd.C_below (Kd.C_below HR5.out hb6.out) hb7.out)
      have HCp7 := Aside0.mk (Kd.C_below HCp.out hb7.out)
      have HCz7 := Aside0.mk (Kd.C_below (Kd.C_below (Kd.C_below HCz.out hb5.out) hb6.out) hb7.out)
      have HC07 := Aside0.mk (Kd.C_below (Kd.C_below (Kd.C_below HC0.out hb5.out) hb6.out) hb7.out)
      have HC17 := Aside0.mk (Kd.C_below (Kd.C_below (Kd.C_below HC1.out hb5.out) hb6.out) hb7.out)
      have HZB7 := Aside0.mk (blk_below (blk_below (blk_below HZB.out hb5.out) hb6.out) hb7.out)
      have HX07 := Aside0.mk (blk_below (blk_below (blk_below HX0.out hb5.out) hb6.out) hb7.out)
      have HX17 := Aside0.mk (blk_below (blk_below (blk_below HX1.out hb5.out) hb6.out) hb7.out)
      have HB7 := Aside0.mk (((HB4.out.trans (hb5.out.mono HB4.out.size)).trans (hb6.out.mono (Nat.le_trans HB4.out.size hb5.out.size))).trans (hb7.out.mono (Nat.le_trans (Nat.le_trans HB4.out.size hb5.out.size) hb6.out.size)))
      clear HR5 HCp HCq HCz HC0 HC1 HZB HX0 HX1 hb5 hb6 hb7 hw4z HB4 hbA hbB
      go_wp2
      go_loopw [14] (fun i wr => ∃ k : Nat, k ≤ VA.length ∧ i = .int .i64 k ∧ Aside0 (Below w7.heap.size w7 wr)) (fun i wr => VA.length - (intOf i).toNat)
      case atStart => exact ⟨0, Nat.zero_le _, rfl, ⟨Below.refl _ _⟩⟩
      case round =>
        obtain ⟨k, hk, rfl, hbr⟩ := hrel
        by_cases hlt : k < VA.length
        · obtain ⟨az, rfl, hz⟩ := Kd.at_int (Kd.C_below HRz.out hbr.out) (k : Int) (by omega) (by have := FI.out.2.1; omega)
          obtain ⟨ap, rfl, hp⟩ := Kd.at_int (Kd.C_below HCp7.out hbr.out) (k : Int) (by omega) (by omega)
          obtain ⟨sx, hsx⟩ := FI.out.2.2.2
          rw [rd_pre hsx k hlt] at hz
          have hzz := Aside0.mk hz
          have hpp := Aside0.mk hp
          clear hz hp hsx sx
          go_wp2
          refine TermCounts_r17 (nz := VZ.length) (np := VA.length) (i := (k : Int)) (x := rd VA (k : Int)) (by kernel_rfl) rfl rfl rfl (by omega) (by have := FI.out.2.1; omega) (by omega) FL.out.1 hcz hlp hzz.out hpp.out (cell_lt hzz.out) (cell_lt hpp.out) ?_
          intro v w8 hb8 hv8
          simp only [layL, Nat.reduceAdd, List.setIfInBounds_toArray, List.set_cons_zero, List.set_cons_succ, hv8]
          have hbr8 := Aside0.mk (hbr.out.trans (hb8.mono hbr.out.size))
          clear hv8 hb8 hzz hpp
          go_wp2
          go_roundw
          case rel => exact ⟨k + 1, by omega, by go_num, hbr8⟩
          case measure => simp [intOf]; omega
        · have hke : k = VA.length := by omega
          go_wp2
          have hcn := FC.out.2.2.2
          rw [hf77] at hcn
          simp only [Bool.false_eq_true, if_false, ite_false, reduceIte] at hcn
          refine TermCounts_r19 (f := f) (nn := 0) (sz := NZ) (sa := NA) (sb := NB) (cz := CZ) (ca := CA) (cb := CB) (PZ := PZ) (by kernel_rfl) rfl rfl rfl (blk_below HZB7.out hbr.out) rfl (blk_below HX07.out hbr.out) rfl (blk_below HX17.out hbr.out) ?_ ?_ ?_ ?_ ?_ ?_ ?_ ?_ FS.out.2.2.2 (by omega) (FP.out.2.trans rfl) FB.out.1 FB.out.2.1 (Nat.le_trans FB.out.2.2.1 FB.out.1) (Nat.le_trans FB.out.2.2.2 FB.out.2.1) (by omega) ?_
          · intro w1 hb; exact term_Size.calls 77 _ _ [a, b] NZ w1 (Kd.C_below (Kd.C_below HCz7.out hbr.out) hb) (by simp) FS.out.1
          · intro w1 hb; exact term_Size.calls _ _ _ a.f1 NA w1 (Kd.C_below (Kd.C_below HC07.out hbr.out) hb) hq0 FS.out.2.1
          · intro w1 hb; exact term_Size.calls _ _ _ b.f1 NB w1 (Kd.C_below (Kd.C_below HC17.out hbr.out) hb) hq1 FS.out.2.2.1
          · intro w1 hb; exact term_Count.calls 77 _ _ [a, b] f CZ w1 (Kd.C_below (Kd.C_below HCz7.out hbr.out) hb) (by simp) FC.out.1
          · intro w1 hb; exact term_Count.calls _ _ _ a.f1 f CA w1 (Kd.C_below (Kd.C_below HC07.out hbr.out) hb) hq0 FC.out.2.1
          · intro w1 hb; exact term_Count.calls _ _ _ b.f1 f CB w1 (Kd.C_below (Kd.C_below HC17.out hbr.out) hb) hq1 FC.out.2.2.1
          · intro w1 hb; exact (term_Places.calls 77 _ _ [a, b] PZ w1 (Kd.C_below (Kd.C_below HCz7.out hbr.out) hb) (by simp) FP.out.1).mono (fun e w2 ⟨v, h1, h2, h3⟩ => ⟨v, h1, RowTold.of h2, h3⟩)
          · intro w1 hb; exact term_Size.calls 77 _ _ [a, b] NZ w1 (Kd.C_below (Kd.C_below HCz7.out hbr.out) hb) (by simp) FS.out.1
          intro v w9 hb9 hv32
          simp only [layL, Nat.reduceAdd, List.setIfInBounds_toArray, List.set_cons_zero, List.set_cons_succ, hv32]
          have hb9 := Aside0.mk hb9
          clear hv32
          go_wp2
          go_ret
          exact ⟨rfl, (HB7.out.trans (hbr.out.mono HB7.out.size)).trans (hb9.out.mono (Nat.le_trans HB7.out.size hbr.out.size))⟩
end Go.Proofs.Ytpfddihcikiofaa.P
end
section
namespace Go.Proofs.Ytpfddihcikiofaa.termCounts
open Go.ChangeShapes Go.WideShapes Go.ChangeAt Go.RowKit
set_option linter.unusedVariables false
theorem own : ownKnob Try.prog.godebug = none := by kernel_rfl
theorem laidOut : laidOutB Try.prog = true := by kernel_rfl
set_option maxRecDepth 100000 in
theorem lifted (os : Os) (started : os.Started) (H : Type) (enc : TypeId × Value → H) :
    ReturnsInHanded {} Try.checked os 4 .any (Rows.termCountsSpec.pre6 enc Try.prog Try.f4 Rows.termCountsRow.domain false) (Rows.termCountsSpec.post enc Try.prog Try.f4 false true false false) := by
  refine returnsInHanded_of_change_sized (C := Try.checked) own started (by kernel_rfl) Try.func4
    (ChangeSpec.witness6 (enc := enc) (C := Try.checked) false ⟨#[], #[.agg #[.int .i64 0, .slice none 0 0], .agg #[.int .i64 0, .slice none 0 0], .int .i64 0], []⟩ 8 (by kernel_rfl) (by kernel_rfl) (by kernel_rfl) (by kernel_rfl)) ?_
  intro W base args ds gs before hval0 hW hcnd hsz0 _
  have hval : ∀ (j : Nat) t v, Try.f4.params[j]? = some t → args[j]? = some v → Value.okWide Try.prog W .any base t v := hval0
  have hW' := hW
  obtain ⟨p, q, hA0, hV, rfl, hfz, hnd⟩ := hW
  have hA : DataW.TrodAll enc Try.prog W 0 (fun _ => true) true Try.f4.params.toList args.toList ds p := hA0
  rw [Try.params4] at hA hval
  obtain ⟨v0, vs0, d0, ds0, p0, q0, hargs, rfl, rfl, h0, r0⟩ := trodAll_cons hA
  obtain ⟨v1, vs1, d1, ds1, p1, q1, rfl, rfl, rfl, h1, r1⟩ := trodAll_cons r0
  obtain ⟨v2, vs2, d2, ds2, p2, q2, rfl, rfl, rfl, h2, r2⟩ := trodAll_cons r1
  obtain ⟨rfl, rfl, rfl⟩ := trodAll_nil r2
  obtain rfl : args = #[v0, v1, v2] := by cases args; simp_all
  obtain ⟨rfl, rfl⟩ := trodVars_none hV
  have k0 := h0
  have lt0 : ∀ x ∈ p0, x.block < W.heap.size := by obtain ⟨m, hm⟩ := k0; exact DataW.trod_lt m _ _ _ hm
  obtain ⟨t0, A0, c0, rfl, hc0, hC0, hw0⟩ := P.open_T (hval 0 24 v0 rfl rfl) h0
  have k1 := h1
  have lt1 : ∀ x ∈ p1, x.block < W.heap.size := by obtain ⟨m, hm⟩ := k1; exact DataW.trod_lt m _ _ _ hm
  obtain ⟨t1, A1, c1, rfl, hc1, hC1, hw1⟩ := P.open_T (hval 1 24 v1 rfl rfl) h1
  obtain ⟨a2, rfl, rfl, rfl, w2⟩ := open_int Try.underlying3 (hval 2 3 v2 rfl rfl) h2
  clear hA0 hval0 hsz0
  refine (P.TermCounts_walk t0 t1 a2 A0 c0 A1 c1 W (by have := w2; simp only [Lit.wf, IntKind.min, IntKind.max, IntKind.signed, IntKind.bits, Bool.and_eq_true, decide_eq_true_eq, if_true] at this; omega) hC0 hc0 hC1 hc1).mono fun e W' ⟨he, bel⟩ => ?_
  subst he
  exact ⟨_, rfl, _, _, _, [], _, [], hW', trodAll_mk1 (shut_bool Try.underlying4 _), (trodAll_cons_mk (Below.trod laidOut (by kernel_rfl) (of_decide_eq_true (by kernel_rfl)) k0 bel lt0) (trodAll_cons_mk (Below.trod laidOut (by kernel_rfl) (of_decide_eq_true (by kernel_rfl)) k1 bel lt1) (trodAll_cons_mk (shut_int Try.underlying3 w2) trodAll_mk0))), rfl, bel.frame _, fun h => by cases h⟩
theorem over : Rows.termCountsRow.holds Try.pinned (OpenSpec.ofChange Rows.termCountsSpec) :=
  OpenClaim.holds_of_wide 4 Try.f4 rfl rfl rfl rfl rfl rfl rfl ⟨rfl, rfl, rfl, rfl, rfl⟩ rfl rfl rfl rfl rfl (by kernel_rfl) Try.func4 (by kernel_rfl)
    (of_decide_eq_true (by kernel_rfl)) (by unfold Func.isWrapper; first | (rw [if_pos (by decide +kernel)]; kernel_rfl) | (rw [if_neg (by decide +kernel)]; exact ⟨rfl, rfl⟩))
    (fun os started H enc _ => lifted os started H enc)
end Go.Proofs.Ytpfddihcikiofaa.termCounts
namespace Go.Proofs.Ytpfddihcikiofaa
theorem termCounts_holds : Rows.TermCountsSaid := termCounts.over
#print axioms termCounts_holds
end Go.Proofs.Ytpfddihcikiofaa
end
