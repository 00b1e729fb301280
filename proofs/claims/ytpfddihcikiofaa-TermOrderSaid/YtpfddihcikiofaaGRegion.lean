/- A region that draws its order, walked op by op: what holds of the values that are there is kept by each op, whatever has been done ahead. -/
import Derived.OrdersHeld
import Derived.RegionTactic
import Derived.Test.YtpfddihcikiofaaGLaw
namespace Go.Proofs.Ytpfddihcikiofaa.P
open Go.RowKit Go.Proofs.YtpfddihcikiofaaW.PrintWords Go.Proofs.YtpfddihcikiofaaW.PrintLast Go.Proofs.YtpfddihcikiofaaW.PrintMore
set_option linter.unusedVariables false
set_option linter.unusedSimpArgs false

def upd {α : Type} (v : Nat → α) (i : Nat) (u : α) : Nat → α := fun j => if j = i then u else v j
theorem upd_same {α : Type} (v : Nat → α) (i : Nat) (u : α) : upd v i u i = u := by simp [upd]
theorem upd_other {α : Type} (v : Nat → α) {i j : Nat} (u : α) (h : j ≠ i) : upd v i u j = v j := by simp [upd, h]
def dstOf (ops : Array Oper) (i : Nat) : Option Tmp := (ops[i]?).bind (·.dst)
/-- No two ops lay the same slot; each waits for earlier ones alone; the slots are there. -/
def regionOk (ops : Array Oper) (n : Nat) : Bool :=
  (List.range ops.size).all fun i =>
    ((ops[i]?).map fun o => o.after.all (fun e => decide (e.on < i))).getD false &&
    match dstOf ops i with
    | none => true
    | some t => decide (t < n) && (List.range ops.size).all fun j => decide (j = i) || decide (dstOf ops j ≠ some t)
/-- What the slots hold. -/
structure Holds (ops : Array Oper) (base T : Array Value) (v : Nat → Value) (d : Nat → Bool) : Prop where
  size : T.size = base.size
  done : ∀ j t, d j = true → dstOf ops j = some t → T.getD t undef = v j
  base : ∀ t, (∀ j, d j = true → dstOf ops j ≠ some t) → T.getD t undef = base.getD t undef

/-- All values laid, in the ops' order. -/
def layAll (ops : Array Oper) (v : Nat → Value) (T : Array Value) : Array Value := (List.range ops.size).foldl (fun T i => match dstOf ops i with | some t => T.setIfInBounds t (v i) | none => T) T

section
variable {P : Program} {ops : Array Oper} {Q : Exit → Act → World → Prop}
/-- One op's part. -/
def StepOk (P : Program) (ops : Array Oper) (Q : Exit → Act → World → Prop) (base : Array Value) (ds : List Deferred) (I : (Nat → Value) → (Nat → Bool) → World → Prop) (i : Nat) : Prop :=
  ∀ o, ops[i]? = some o → ∀ v d T w, Holds ops base T v d → I v d w → d i = false → (∀ e ∈ o.after, Region.binds .any e = true → d e.on = true) →
    ∀ K : Act → World → Prop, (∀ u w2, I (upd v i u) (upd d i true) w2 → K ({ tmps := T, defers := ds : Act }.put o.dst u) w2) →
      if Region.wanted o (yielded ops T) = true then Oper.wp P o { tmps := T, defers := ds } w K Q else K ({ tmps := T, defers := ds : Act }.put o.dst undef) w

theorem dst_inj {n : Nat} (h : regionOk ops n = true) {i j : Nat} {t : Tmp} (hi : dstOf ops i = some t) (hj : dstOf ops j = some t) : i = j ∧ t < n := by
  have hlt : ∀ {i : Nat}, dstOf ops i = some t → i < ops.size := by
    intro i hi
    unfold dstOf at hi
    rcases Nat.lt_or_ge i ops.size with h | h
    · exact h
    · rw [Array.getElem?_eq_none h] at hi; cases hi
  unfold regionOk at h
  rw [List.all_eq_true] at h
  have h1 := h i (List.mem_range.2 (hlt hi))
  rw [Bool.and_eq_true] at h1
  have h2 := h1.2
  rw [hi] at h2
  simp only [Bool.and_eq_true, decide_eq_true_eq, List.all_eq_true] at h2
  have h3 := h2.2 j (List.mem_range.2 (hlt hj))
  rw [Bool.or_eq_true, decide_eq_true_eq, decide_eq_true_eq] at h3
  rcases h3 with h3 | h3
  · exact ⟨h3.symm, h2.1⟩
  · exact absurd hj h3
theorem dep_lt {n : Nat} (h : regionOk ops n = true) {i : Nat} {o : Oper} (ho : ops[i]? = some o) : ∀ e ∈ o.after, e.on < i := by
  have hlt : i < ops.size := (Array.getElem?_eq_some_iff.1 ho).1
  unfold regionOk at h
  rw [List.all_eq_true] at h
  have h1 := h i (List.mem_range.2 hlt)
  rw [Bool.and_eq_true] at h1
  have h2 := h1.1
  rw [ho] at h2
  simp only [Option.map_some, Option.getD_some, Array.all_eq_true', decide_eq_true_eq] at h2
  exact h2

theorem Holds.put {base T : Array Value} {v : Nat → Value} {d : Nat → Bool} (h : Holds ops base T v d) (hr : regionOk ops base.size = true) {i : Nat} (hd : d i = false) (u : Value) (ds : List Deferred) :
    Holds ops base (({ tmps := T, defers := ds : Act }.put (dstOf ops i) u).tmps) (upd v i u) (upd d i true) := by
  cases hdi : dstOf ops i with
  | none =>
    refine ⟨h.size, fun j t hj hjt => ?_, fun t ht => h.base t (fun j hj => ?_)⟩
    · have hne : j ≠ i := fun e => by subst e; rw [hdi] at hjt; cases hjt
      rw [upd_other _ _ hne] at hj ⊢
      exact h.done j t hj hjt
    · have hne : j ≠ i := fun e => by subst e; rw [hd] at hj; cases hj
      exact ht j (by rw [upd_other _ _ hne]; exact hj)
  | some s =>
    have hs : s < base.size := (dst_inj hr hdi hdi).2
    have hput : (({ tmps := T, defers := ds : Act }.put (some s) u).tmps) = T.setIfInBounds s u := rfl
    rw [hput]
    have hget : ∀ t, (T.setIfInBounds s u).getD t undef = if t = s then u else T.getD t undef := by
      intro t
      simp only [Array.getD_eq_getD_getElem?, Array.getElem?_setIfInBounds]
      by_cases h1 : s = t
      · subst h1
        simp [h.size, hs]
      · simp [h1, Ne.symm h1]
    refine ⟨by simp [h.size], fun j t hj hjt => ?_, fun t ht => ?_⟩
    · rw [hget]
      by_cases hji : j = i
      · subst hji
        rw [hdi] at hjt
        injection hjt with hjt
        subst hjt
        rw [if_pos rfl, upd_same]
      · rw [upd_other _ _ hji] at hj ⊢
        rw [if_neg (fun e => hji (by subst e; exact (dst_inj hr hjt hdi).1))]
        exact h.done j t hj hjt
    · rw [hget, if_neg (fun e => ht i (upd_same _ _ _) (by rw [hdi, e]))]
      refine h.base t (fun j hj => ht j ?_)
      have hne : j ≠ i := fun e => by subst e; rw [hd] at hj; cases hj
      rw [upd_other _ _ hne]
      exact hj
theorem layAll_eq {base T : Array Value} {v : Nat → Value} {d : Nat → Bool} (h : Holds ops base T v d) (hr : regionOk ops base.size = true) (hall : ∀ i, i < ops.size → d i = true) : T = layAll ops v base := by
  have key : ∀ (n : Nat), n ≤ ops.size → ∀ t, ((List.range n).foldl (fun T i => match dstOf ops i with | some t => T.setIfInBounds t (v i) | none => T) base).size = base.size ∧
      (((List.range n).foldl (fun T i => match dstOf ops i with | some t => T.setIfInBounds t (v i) | none => T) base).getD t undef = T.getD t undef ∨
       ((∀ j, j < n → dstOf ops j ≠ some t) ∧ ((List.range n).foldl (fun T i => match dstOf ops i with | some t => T.setIfInBounds t (v i) | none => T) base).getD t undef = base.getD t undef)) := by
    intro n
    induction n with
    | zero => intro _ t; exact ⟨rfl, .inr ⟨fun j hj => by omega, rfl⟩⟩
    | succ n ih =>
      intro hn t
      obtain ⟨h1, h2⟩ := ih (by omega) t
      rw [List.range_succ, List.foldl_append]
      simp only [List.foldl_cons, List.foldl_nil]
      generalize (List.range n).foldl (fun T i => match dstOf ops i with | some t => T.setIfInBounds t (v i) | none => T) base = X at h1 h2 ⊢
      cases hd : dstOf ops n with
      | none =>
        refine ⟨h1, h2.imp_right (fun h3 => ⟨fun j hj => ?_, h3.2⟩)⟩
        rcases Nat.lt_or_ge j n with hlt | hge
        · exact h3.1 j hlt
        · rw [show j = n by omega, hd]; simp
      | some s =>
        have hs := (dst_inj hr hd hd).2
        refine ⟨by simp [h1], ?_⟩
        simp only [Array.getD_eq_getD_getElem?, Array.getElem?_setIfInBounds]
        by_cases hst : s = t
        · subst hst
          left
          rw [if_pos rfl, if_pos (show s < X.size by rw [h1]; exact hs)]
          have := h.done n s (hall n (by omega)) hd
          rw [Array.getD_eq_getD_getElem?] at this
          rw [this]
          rfl
        · rw [if_neg hst]
          simp only [Array.getD_eq_getD_getElem?] at h2
          refine h2.imp_right (fun h3 => ⟨fun j hj => ?_, h3.2⟩)
          rcases Nat.lt_or_ge j n with hlt | hge
          · exact h3.1 j hlt
          · rw [show j = n by omega, hd]
            intro e
            injection e with e
            exact hst e
  have hsz := (key ops.size (Nat.le_refl _) 0).1
  refine Array.ext (by rw [h.size]; exact hsz.symm) (fun t h1 h2 => ?_)
  have h3 := (key ops.size (Nat.le_refl _) t).2
  have h4 : (layAll ops v base).getD t undef = T.getD t undef := by
    rcases h3 with h3 | ⟨h3, h5⟩
    · exact h3
    · rw [h.base t (fun j hj e => h3 j (by
        unfold dstOf at e
        rcases Nat.lt_or_ge j ops.size with h | h
        · exact h
        · rw [Array.getElem?_eq_none h] at e; cases e) e)]
      exact h5
  simp only [Array.getD_eq_getD_getElem?, Array.getElem?_eq_getElem h1, Array.getElem?_eq_getElem h2, Option.getD_some] at h4
  exact h4.symm

theorem region_vals {id : Nat} {a : Act} {w : World} (hm : P.follows .mixedOrders = true) (hr : regionOk ops a.tmps.size = true) (I : (Nat → Value) → (Nat → Bool) → World → Prop)
    (h0 : ∀ v, I v (fun _ => false) w.drew) (hstep : ∀ i, StepOk P ops Q a.tmps a.defers I i)
    (hdone : ∀ v d w', (∀ i, i < ops.size → d i = true) → I v d w' → Q .normal { tmps := layAll ops v a.tmps, defers := a.defers } w') : (Code.region id ops true).wp P Q a w := by
  refine wp_region_any hm ?_
  have key : ∀ (fuel : Nat) (listed : Array Bool) (v : Nat → Value) (T : Array Value) (w' : World), listed.size = ops.size → (listed.toList.filter (· == false)).length ≤ fuel →
      Holds ops a.tmps T v (fun i => listed.getD i false) → I v (fun i => listed.getD i false) w' → wpAny P .any ops Q fuel listed { tmps := T, defers := a.defers } w' := by
    intro fuel
    induction fuel with
    | zero =>
      intro listed v T w' hl hf hH hI
      have hall : ∀ i, i < ops.size → listed.getD i false = true := by
        intro i hi
        have hmem : listed[i]'(by omega) ∈ listed.toList := by simp
        cases hb : listed[i]'(by omega) with
        | true => simp [Array.getD, hl, hi, hb]
        | false =>
          have : false ∈ listed.toList.filter (· == false) := by
            rw [List.mem_filter]
            exact ⟨hb ▸ hmem, rfl⟩
          have := List.length_pos_of_mem this
          omega
      have hready : Region.ready .any ops listed = [] := by
        unfold Region.ready
        rw [List.filter_eq_nil_iff]
        intro i hi
        rw [List.mem_range] at hi
        have h1 := hall i hi
        have h2 : listed.getD i true = true := by
          simp only [Array.getD_eq_getD_getElem?, Array.getElem?_eq_getElem (show i < listed.size by omega), Option.getD_some] at h1 ⊢
          exact h1
        simp only [h2, Bool.not_true, Bool.false_and]
        simp
      refine wpAny_done hready ?_ _
      rw [layAll_eq hH hr hall]
      exact hdone v _ w' hall hI
    | succ fuel ih =>
      intro listed v T w' hl hf hH hI
      refine ⟨fun hready => ?_, fun i hi => ?_⟩
      · -- nothing is ready: all is done
        have hall : ∀ i, i < ops.size → listed.getD i false = true := by
          intro i
          induction i using Nat.strongRecOn with
          | ind i ihi =>
            intro hi
            cases hb : listed.getD i false with
            | true => rfl
            | false =>
              exfalso
              have ho : ops[i]? = some ops[i] := Array.getElem?_eq_getElem hi
              have hmem : i ∈ Region.ready .any ops listed := by
                unfold Region.ready
                rw [List.mem_filter]
                refine ⟨List.mem_range.2 hi, ?_⟩
                have h2 : listed.getD i true = false := by
                  simp only [Array.getD_eq_getD_getElem?, Array.getElem?_eq_getElem (show i < listed.size by omega), Option.getD_some] at hb ⊢
                  exact hb
                rw [h2, ho]
                simp only [Bool.not_false, Bool.true_and, Option.map_some, Option.getD_some, Array.all_eq_true']
                intro e he
                rw [ihi e.on (dep_lt hr ho e he) (Nat.lt_trans (dep_lt hr ho e he) hi)]
                simp
              rw [hready] at hmem
              cases hmem
        rw [layAll_eq hH hr hall]
        exact hdone v _ w' hall hI
      · unfold Region.ready at hi
        rw [List.mem_filter, List.mem_range] at hi
        obtain ⟨hi, hcond⟩ := hi
        have ho : ops[i]? = some ops[i] := Array.getElem?_eq_getElem hi
        rw [ho, Bool.and_eq_true] at hcond
        obtain ⟨hn, hdeps⟩ := hcond
        have hb : listed.getD i false = false := by
          simp only [Array.getD_eq_getD_getElem?, Array.getElem?_eq_getElem (show i < listed.size by omega), Option.getD_some] at hn ⊢
          simpa using hn
        simp only [Option.map_some, Option.getD_some, Array.all_eq_true'] at hdeps
        have hdd : (fun j => (listed.setIfInBounds i true).getD j false) = upd (fun j => listed.getD j false) i true := by
          funext j
          simp only [Array.getD_eq_getD_getElem?, Array.getElem?_setIfInBounds, upd]
          by_cases h1 : i = j
          · subst h1
            simp [show i < listed.size by omega]
          · simp [h1, Ne.symm h1]
        refine wpOp_step ho (fun K' hK' => ?_)
        refine hstep i _ ho v _ T w' hH hI hb (fun e he hbd => ?_) K' (fun u w2 h2 => hK' _ _ ?_)
        · have := hdeps e he
          rw [hbd] at this
          simpa using this
        · have hdst : (ops[i]).dst = dstOf ops i := by unfold dstOf; rw [ho]; rfl
          rw [hdst]
          have hH2 := hH.put hr hb u a.defers
          rw [← hdd] at hH2 h2
          have hde : ∀ (x : Option Tmp), ({ tmps := T, defers := a.defers : Act }.put x u) = { tmps := ({ tmps := T, defers := a.defers : Act }.put x u).tmps, defers := a.defers } := by
            intro x
            cases x <;> rfl
          rw [hde]
          refine ih _ (upd v i u) _ w2 (by simp [hl]) ?_ hH2 h2
          -- one less to do
          have hcount : ∀ (l : List Bool) (i : Nat), l[i]? = some false → ((l.set i true).filter (· == false)).length + 1 = (l.filter (· == false)).length := by
            intro l
            induction l with
            | nil => intro i h; simp at h
            | cons b l ih =>
              intro i h
              cases i with
              | zero =>
                simp at h
                subst h
                simp
              | succ i =>
                have := ih i (by simpa using h)
                cases b <;> simp only [List.set_cons_succ, List.filter_cons] <;> simp <;> simpa using this
          have h1 : listed.toList[i]? = some false := by
            simp only [Array.getD_eq_getD_getElem?, Array.getElem?_eq_getElem (show i < listed.size by omega), Option.getD_some] at hb
            rw [Array.getElem?_toList, Array.getElem?_eq_getElem (show i < listed.size by omega), hb]
          have := hcount listed.toList i h1
          rw [Array.toList_setIfInBounds]
          omega
  refine key ops.size _ (fun _ => undef) a.tmps _ (by simp) ?_ ?_ ?_
  · exact Nat.le_trans (List.length_filter_le _ _) (by simp)
  · have hf : ∀ i, (Array.replicate ops.size false).getD i false = false := by
      intro i
      simp only [Array.getD_eq_getD_getElem?, Array.getElem?_replicate]
      split <;> rfl
    exact ⟨rfl, fun j t hj => (by rw [hf] at hj; cases hj), fun t _ => rfl⟩
  · have hf : (fun i => (Array.replicate ops.size false).getD i false) = (fun _ => false) := by
      funext i
      simp only [Array.getD_eq_getD_getElem?, Array.getElem?_replicate]
      split <;> rfl
    rw [hf]
    exact h0 _
end
end Go.Proofs.Ytpfddihcikiofaa.P
