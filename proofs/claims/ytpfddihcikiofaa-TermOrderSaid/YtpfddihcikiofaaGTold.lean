/- What ops leave, told: rows and terms that can be read. -/
import Derived.Test.YtpfddihcikiofaaGSeg
import Derived.Test.YtpfddihcikiofaaGOf
namespace Go.Proofs.Ytpfddihcikiofaa.P
open Go.RowKit Go.Proofs.YtpfddihcikiofaaW.PrintWords Go.Proofs.YtpfddihcikiofaaW.PrintLast Go.Proofs.YtpfddihcikiofaaW.PrintMore
set_option linter.unusedVariables false
set_option linter.unusedSimpArgs false

def layL : List (Option Tmp) → Nat → (Nat → Value) → Array Value → Array Value
  | [], _, _, T => T
  | some t :: r, i, v, T => layL r (i + 1) v (T.setIfInBounds t (v i))
  | none :: r, i, v, T => layL r (i + 1) v T
theorem layFirst_layL {ops : Array Oper} {m : Nat} {l : List (Option Tmp)} (h : (List.range m).map (dstOf ops) = l) (v : Nat → Value) (T : Array Value) : layFirst ops m v T = layL l 0 v T := by
  subst h
  have key : ∀ (n k : Nat) (T : Array Value), (List.range' k n).foldl (fun T i => match dstOf ops i with | some t => T.setIfInBounds t (v i) | none => T) T = layL ((List.range' k n).map (dstOf ops)) k v T := by
    intro n
    induction n with
    | zero => intro k T; rfl
    | succ n ih =>
      intro k T
      rw [List.range'_succ, List.foldl_cons, List.map_cons, ih]
      cases dstOf ops k <;> rfl
  unfold layFirst
  rw [List.range_eq_range']
  exact key m 0 T
theorem DetAll.fin {P : Program} {ops : Array Oper} {Q : Exit → Act → World → Prop} {base : Array Value} {ds : List Deferred} {w0 : World} {m i : Nat} {ps : List Told} (l : List (Option Tmp)) (hd : (List.range m).map (dstOf ops) = l) (hl : ps.length = m) (hi : i = m)
    (h : ∀ v w', Below w0.heap.size w0 w' → (∀ (j : Nat) (p : Told), ps[j]? = some p → p (v j) w') → wpAny P .any ops Q (ops.size - m) (firstDone ops.size m) { tmps := layL l 0 v base, defers := ds } w') : DetAll P ops Q base ds w0 m i ps :=
  DetAll.nil hl hi (fun v w' hb hv => by rw [layFirst_layL hd]; exact h v w' hb hv)
theorem DetAll.done {P : Program} {ops : Array Oper} {Q : Exit → Act → World → Prop} {base : Array Value} {ds : List Deferred} {w0 : World} {m i : Nat} {ps : List Told} (l : List (Option Tmp)) (hd : (List.range m).map (dstOf ops) = l) (hl : ps.length = m) (hi : i = m)
    (hr : Region.ready .any ops (firstDone ops.size m) = []) (h : ∀ v w', Below w0.heap.size w0 w' → (∀ (j : Nat) (p : Told), ps[j]? = some p → p (v j) w') → Q .normal { tmps := layL l 0 v base, defers := ds } w') : DetAll P ops Q base ds w0 m i ps :=
  DetAll.fin l hd hl hi (fun v w' hb hv => wpAny_done hr (h v w' hb hv) _)

def RowTold {α : Type} (d : Kd α) (l : List α) : Told := fun u w => ∃ A c, u = .slice A l.length c ∧ l.length ≤ c ∧ d.C w A l.length l
theorem RowTold.grows {α : Type} (d : Kd α) (l : List α) : (RowTold d l).grows := fun u w w' h hb => by
  obtain ⟨A, c, h1, h2, h3⟩ := h
  exact ⟨A, c, h1, h2, Kd.C_below h3 hb⟩
theorem RowTold.of {α : Type} {d : Kd α} {e b : Nat} {ok : Nat → Prop} {l : List α} {w : World} {v : Value} (h : d.R e w b ok v l) : RowTold d l v w := by
  obtain ⟨A, c, rfl⟩ := Kd.R_slice h
  have h2 := Kd.R_reads' h
  exact ⟨A, c, rfl, h2.2.1, h2.2.2⟩
/-- A term by value. -/
def TermTold (d : Kd S30) (f : Int) (l : List S30) : Told := fun u w => ∃ A c, u = .agg #[.int .i64 f, .slice A l.length c] ∧ l.length ≤ c ∧ d.C w A l.length l
theorem TermTold.grows (d : Kd S30) (f : Int) (l : List S30) : (TermTold d f l).grows := fun u w w' h hb => by
  obtain ⟨A, c, h1, h2, h3⟩ := h
  exact ⟨A, c, h1, h2, Kd.C_below h3 hb⟩
theorem TermTold.of {d : Kd S30} {e b : Nat} {ok : Nat → Prop} {f : Int} {l : List S30} {w : World} {v : Value} (h : d.R e w b ok v l) : TermTold d f l (.agg #[.int .i64 f, v]) w := by
  obtain ⟨A, c, rfl⟩ := Kd.R_slice h
  have h2 := Kd.R_reads' h
  exact ⟨A, c, rfl, h2.2.1, h2.2.2⟩
/-- A block of its own, known whole. -/
def BlockTold (N : Nat) (f : Nat → Value) (cs : Array Value) (t : TypeId) : Told := fun u w => ∃ g, u = f g ∧ N ≤ g ∧ w.heap[g]? = some (.cells cs t (0, 0))
theorem BlockTold.grows (N : Nat) (f : Nat → Value) (cs : Array Value) (t : TypeId) : (BlockTold N f cs t).grows := fun u w w' h hb => by
  obtain ⟨g, h1, h2, h3⟩ := h
  exact ⟨g, h1, h2, blk_below h3 hb⟩
theorem wanted_of {o : Oper} {ops : Array Oper} {T : Array Value} {j : Nat} {t : Tmp} {b want : Bool} (hg : o.guard = some (j, want)) (hd : dstOf ops j = some t) (he : T.getD t undef = .bool b) : Region.wanted o (yielded ops T) = (b == want) := by
  have h1 : T[t]? = some (.bool b) := by
    rw [Array.getD_eq_getD_getElem?] at he
    cases hx : T[t]? with
    | none => rw [hx] at he; cases he
    | some x => rw [hx] at he; simp at he; rw [he]
  unfold Region.wanted
  rw [hg]
  simp only [yielded]
  rw [show ((ops[j]?).bind (·.dst)) = some t from hd]
  simp only [Option.bind_some, h1]
  cases b <;> cases want <;> rfl
theorem wanted_none {o : Oper} (y : Nat → Option Bool) (hg : o.guard = none) : Region.wanted o y = true := by
  unfold Region.wanted
  rw [hg]
theorem wanted_yes {o : Oper} {ops : Array Oper} {T : Array Value} (j : Nat) (t : Tmp) (b : Bool) (hg : o.guard = some (j, b)) (hd : dstOf ops j = some t) (he : T.getD t undef = .bool b) : Region.wanted o (yielded ops T) = true := (wanted_of hg hd he).trans (by cases b <;> rfl)
theorem wanted_no {o : Oper} {ops : Array Oper} {T : Array Value} (j : Nat) (t : Tmp) (b : Bool) (hg : o.guard = some (j, !b)) (hd : dstOf ops j = some t) (he : T.getD t undef = .bool b) : ¬ Region.wanted o (yielded ops T) = true := by
  rw [wanted_of hg hd he]
  cases b <;> decide
/-- The same, the predicates kept the last one first: so that a place is found at once. -/
def DetR (P : Program) (ops : Array Oper) (Q : Exit → Act → World → Prop) (base : Array Value) (ds : List Deferred) (w0 : World) (m i : Nat) (rs : List Told) : Prop := rs.length = i → DetAll P ops Q base ds w0 m i rs.reverse
theorem rev_at {rs : List Told} {i j : Nat} {p : Told} (hl : rs.length = i) (hj : j < i) (h : rs[i - 1 - j]? = some p) : rs.reverse[j]? = some p := by
  rw [List.getElem?_reverse (by omega), hl]
  exact h
theorem DetR.cons {P : Program} {ops : Array Oper} {Q : Exit → Act → World → Prop} {base : Array Value} {ds : List Deferred} {w0 : World} {m i : Nat} {rs : List Told} {o : Oper} (p : Told) (ho : ops[i]? = some o) (him : i < m) (hg : p.grows)
    (h : ∀ (T : Array Value) (w : World), Below w0.heap.size w0 w →
      (∀ j t p, j < i → (o.after.any fun e => Region.binds .any e && decide (e.on = j)) = true → dstOf ops j = some t → rs[i - 1 - j]? = some p → p (T.getD t undef) w) →
      (∀ t, ((List.range ops.size).all fun j => decide (dstOf ops j ≠ some t)) = true → T.getD t undef = base.getD t undef) →
      ∀ K : Act → World → Prop, (∀ u w2, Below w.heap.size w w2 → p u w2 → K ({ tmps := T, defers := ds : Act }.put o.dst u) w2) →
        if Region.wanted o (yielded ops T) = true then Oper.wp P o { tmps := T, defers := ds } w K Q else K ({ tmps := T, defers := ds : Act }.put o.dst undef) w)
    (hs : DetR P ops Q base ds w0 m (i + 1) (p :: rs)) : DetR P ops Q base ds w0 m i rs := fun hl => by
  refine DetAll.cons (p := p) ho (by rw [List.length_reverse, hl]) him hg (fun T w hb hd hB K hK => ?_) (by have := hs (by rw [List.length_cons, hl]); rwa [List.reverse_cons] at this)
  exact h T w hb (fun j t p hj h1 h2 h3 => hd j t p h1 h2 (rev_at hl hj h3)) hB K hK
theorem DetR.is {P : Program} {ops : Array Oper} {Q : Exit → Act → World → Prop} {base : Array Value} {ds : List Deferred} {w0 : World} {m i : Nat} {rs : List Told} {o : Oper} {u : Value} (ho : ops[i]? = some o) (him : i < m)
    (h : ∀ (T : Array Value) (w : World), Below w0.heap.size w0 w →
      (∀ j t p, j < i → (o.after.any fun e => Region.binds .any e && decide (e.on = j)) = true → dstOf ops j = some t → rs[i - 1 - j]? = some p → p (T.getD t undef) w) →
      (∀ t, ((List.range ops.size).all fun j => decide (dstOf ops j ≠ some t)) = true → T.getD t undef = base.getD t undef) →
      ∀ K : Act → World → Prop, (∀ w2, Below w.heap.size w w2 → K ({ tmps := T, defers := ds : Act }.put o.dst u) w2) →
        if Region.wanted o (yielded ops T) = true then Oper.wp P o { tmps := T, defers := ds } w K Q else K ({ tmps := T, defers := ds : Act }.put o.dst undef) w)
    (hs : DetR P ops Q base ds w0 m (i + 1) (Told.is u :: rs)) : DetR P ops Q base ds w0 m i rs :=
  DetR.cons (Told.is u) ho him (Told.is_grows u) (fun T w hb hd hB K hK => h T w hb hd hB K (fun w2 h2 => hK u w2 h2 rfl)) hs
theorem DetR.fin {P : Program} {ops : Array Oper} {Q : Exit → Act → World → Prop} {base : Array Value} {ds : List Deferred} {w0 : World} {m i : Nat} {rs : List Told} (l : List (Option Tmp)) (hd : (List.range m).map (dstOf ops) = l) (hi : i = m)
    (h : ∀ v w', Below w0.heap.size w0 w' → (∀ (j : Nat) (p : Told), j < m → rs[m - 1 - j]? = some p → p (v j) w') → wpAny P .any ops Q (ops.size - m) (firstDone ops.size m) { tmps := layL l 0 v base, defers := ds } w') : DetR P ops Q base ds w0 m i rs := fun hl =>
  DetAll.fin l hd (by rw [List.length_reverse]; omega) hi (fun v w' hb hv => h v w' hb (fun j p hj h1 => hv j p (rev_at (by omega) hj h1)))
theorem DetR.done {P : Program} {ops : Array Oper} {Q : Exit → Act → World → Prop} {base : Array Value} {ds : List Deferred} {w0 : World} {m i : Nat} {rs : List Told} (l : List (Option Tmp)) (hd : (List.range m).map (dstOf ops) = l) (hi : i = m)
    (hr : Region.ready .any ops (firstDone ops.size m) = []) (h : ∀ v w', Below w0.heap.size w0 w' → (∀ (j : Nat) (p : Told), j < m → rs[m - 1 - j]? = some p → p (v j) w') → Q .normal { tmps := layL l 0 v base, defers := ds } w') : DetR P ops Q base ds w0 m i rs :=
  DetR.fin l hd hi (fun v w' hb hv => wpAny_done hr (h v w' hb hv) _)
theorem region_detR {P : Program} {ops : Array Oper} {Q : Exit → Act → World → Prop} {id : Nat} {a : Act} {w : World} (m : Nat) (hm : P.follows .mixedOrders = true) (hr : regionOk ops a.tmps.size = true) (hw : waitsAll ops m = true) (h : DetR P ops Q a.tmps a.defers w m 0 []) : (Code.region id ops true).wp P Q a w :=
  region_det m hm hr hw (h rfl)
end Go.Proofs.Ytpfddihcikiofaa.P
