/- Plain law: term.Compare's order is one. -/
import Derived.Test.YtpfddihcikiofaaGCompare
import Derived.Test.YtpfddihcikiofaaGFlat
import Derived.Test.YtpfddihcikiofaaPxTermClone
import Derived.Test.YtpfddihcikiofaaPxTermSame
namespace Go.Proofs.Ytpfddihcikiofaa.P
open Go.RowKit Go.Proofs.YtpfddihcikiofaaW.PrintWords Go.Proofs.YtpfddihcikiofaaW.PrintLast Go.Proofs.YtpfddihcikiofaaW.PrintMore
set_option linter.unusedVariables false
set_option linter.unusedSimpArgs false

theorem cmpI_neg (a b : Int) : cmpI b a = - cmpI a b := by unfold cmpI; (repeat' split) <;> omega
theorem cmpI_self (a : Int) : cmpI a a = 0 := by unfold cmpI; (repeat' split) <;> omega
theorem cmpI_range (a b : Int) : cmpI a b = -1 ∨ cmpI a b = 0 ∨ cmpI a b = 1 := by unfold cmpI; (repeat' split) <;> omega
theorem orI_neg (a b c : Int) : orI (-a) (-b) (-c) = - orI a b c := by unfold orI; (repeat' split) <;> omega
theorem orI_range {a b c : Int} (ha : a = -1 ∨ a = 0 ∨ a = 1) (hb : b = -1 ∨ b = 0 ∨ b = 1) (hc : c = -1 ∨ c = 0 ∨ c = 1) : orI a b c = -1 ∨ orI a b c = 0 ∨ orI a b c = 1 := by unfold orI; (repeat' split) <;> omega
theorem cmp_anti : ∀ x y : S30, cmpT y x = - cmpT x y := by
  refine S30.ind ?_
  intro f l ih y
  obtain ⟨g, m⟩ := y
  have hl : ∀ (l : List S30), (∀ x ∈ l, ∀ y, cmpT y x = - cmpT x y) → ∀ m, cmpTs m l = - cmpTs l m := by
    intro l
    induction l with
    | nil => intro _ m; cases m <;> simp [cmpTs]
    | cons x l ihl =>
      intro h m
      cases m with
      | nil => simp [cmpTs]
      | cons y m =>
        have h1 := h x (by simp) y
        have h2 := ihl (fun x hx => h x (by simp [hx])) m
        simp only [cmpTs, h1, h2]
        by_cases h0 : cmpT x y = 0
        · simp [h0]
        · rw [if_neg (by omega), if_neg h0]
  simp only [cmpT]
  by_cases h1 : f < 0 ∨ g < 0
  · rw [if_pos h1, if_pos h1.symm]
    by_cases h2 : f < 0 ∧ g < 0
    · rw [if_pos h2, if_pos h2.symm]; exact cmpI_neg g f
    · rw [if_neg h2, if_neg (fun h => h2 h.symm)]; exact cmpI_neg f g
  · rw [if_neg h1, if_neg (fun h => h1 h.symm), hl l ih m, cmpI_neg f g, cmpI_neg (l.length : Int) m.length, orI_neg]
theorem cmp_self : ∀ x : S30, cmpT x x = 0 := by
  intro x
  have := cmp_anti x x
  omega
theorem cmp_range : ∀ x y : S30, cmpT x y = -1 ∨ cmpT x y = 0 ∨ cmpT x y = 1 := by
  refine S30.ind ?_
  intro f l ih y
  obtain ⟨g, m⟩ := y
  have hl : ∀ (l : List S30), (∀ x ∈ l, ∀ y, cmpT x y = -1 ∨ cmpT x y = 0 ∨ cmpT x y = 1) → ∀ m, cmpTs l m = -1 ∨ cmpTs l m = 0 ∨ cmpTs l m = 1 := by
    intro l
    induction l with
    | nil => intro _ m; cases m <;> simp [cmpTs]
    | cons x l ihl =>
      intro h m
      cases m with
      | nil => simp [cmpTs]
      | cons y m =>
        have h1 := h x (by simp) y
        have h2 := ihl (fun x hx => h x (by simp [hx])) m
        simp only [cmpTs]
        split
        · exact h2
        · exact h1
  simp only [cmpT]
  split
  · split
    · exact cmpI_range _ _
    · exact cmpI_range _ _
  · exact orI_range (cmpI_range _ _) (cmpI_range _ _) (hl l ih m)
def T3 (p q r : Int) : Prop := p ≤ 0 → q ≤ 0 → r ≤ 0 ∧ (r = 0 ↔ p = 0 ∧ q = 0)
theorem T3.cmpI (a b c : Int) : T3 (cmpI a b) (cmpI b c) (cmpI a c) := by unfold T3 P.cmpI; (repeat' split) <;> omega
theorem orI_spec (a b c : Int) : (a ≠ 0 ∧ orI a b c = a) ∨ (a = 0 ∧ b ≠ 0 ∧ orI a b c = b) ∨ (a = 0 ∧ b = 0 ∧ orI a b c = c) := by unfold orI; (repeat' split) <;> omega
theorem T3.or {p q r p' q' r' p2 q2 r2 : Int} (h : T3 p q r) (h' : T3 p' q' r') (h2 : T3 p2 q2 r2) : T3 (orI p p' p2) (orI q q' q2) (orI r r' r2) := by
  have e1 := orI_spec p p' p2
  have e2 := orI_spec q q' q2
  have e3 := orI_spec r r' r2
  generalize orI p p' p2 = P at e1 ⊢
  generalize orI q q' q2 = Q at e2 ⊢
  generalize orI r r' r2 = R at e3 ⊢
  unfold T3 at *
  rcases e1 with e1 | e1 | e1 <;> rcases e2 with e2 | e2 | e2 <;> rcases e3 with e3 | e3 | e3 <;> intro h3 h4 <;> omega
theorem pick_spec (a b : Int) : (a = 0 ∧ (if a = 0 then b else a) = b) ∨ (a ≠ 0 ∧ (if a = 0 then b else a) = a) := by split <;> omega
theorem T3.pick {p q r p' q' r' : Int} (h : T3 p q r) (h' : T3 p' q' r') : T3 (if p = 0 then p' else p) (if q = 0 then q' else q) (if r = 0 then r' else r) := by
  have e1 := pick_spec p p'
  have e2 := pick_spec q q'
  have e3 := pick_spec r r'
  generalize (if p = 0 then p' else p) = P at e1 ⊢
  generalize (if q = 0 then q' else q) = Q at e2 ⊢
  generalize (if r = 0 then r' else r) = R at e3 ⊢
  unfold T3 at *
  rcases e1 with e1 | e1 <;> rcases e2 with e2 | e2 <;> rcases e3 with e3 | e3 <;> intro h3 h4 <;> omega
theorem cmp_trans : ∀ x y z : S30, T3 (cmpT x y) (cmpT y z) (cmpT x z) := by
  refine S30.ind ?_
  intro f l ih y z
  obtain ⟨g, m⟩ := y
  obtain ⟨h, n⟩ := z
  have hl : ∀ (l : List S30), (∀ x ∈ l, ∀ y z, T3 (cmpT x y) (cmpT y z) (cmpT x z)) → ∀ m n, T3 (cmpTs l m) (cmpTs m n) (cmpTs l n) := by
    intro l
    induction l with
    | nil =>
      intro _ m n
      cases m <;> cases n <;> simp [cmpTs, T3]
    | cons x l ihl =>
      intro h m n
      cases m with
      | nil => cases n <;> simp [cmpTs, T3]
      | cons y m =>
        cases n with
        | nil => simp [cmpTs, T3]
        | cons z n =>
          have h1 := h x (by simp) y z
          have h2 := ihl (fun x hx => h x (by simp [hx])) m n
          simp only [cmpTs]
          exact T3.pick h1 h2
  simp only [cmpT]
  by_cases hf : f < 0 <;> by_cases hg : g < 0 <;> by_cases hh : h < 0 <;> simp only [hf, hg, hh, true_or, or_true, true_and, and_true, false_or, or_false, and_false, false_and, and_self, or_self, if_true, if_false]
  · unfold T3 cmpI; (repeat' split) <;> omega
  · unfold T3 cmpI; (repeat' split) <;> omega
  · unfold T3 cmpI; (repeat' split) <;> omega
  · have e1 := orI_spec (cmpI g h) (cmpI m.length n.length) (cmpTs m n); generalize orI (cmpI g h) (cmpI m.length n.length) (cmpTs m n) = X at e1 ⊢; unfold T3 cmpI at *; (repeat' split) <;> omega
  · unfold T3 cmpI; (repeat' split) <;> omega
  · unfold T3 cmpI; (repeat' split) <;> omega
  · have e1 := orI_spec (cmpI f g) (cmpI l.length m.length) (cmpTs l m); generalize orI (cmpI f g) (cmpI l.length m.length) (cmpTs l m) = X at e1 ⊢; unfold T3 cmpI at *; (repeat' split) <;> omega
  · exact T3.or (T3.cmpI f g h) (T3.cmpI _ _ _) (hl l ih m n)
mutual
/-- A clone: variables have no parts. -/
def cloneT : S30 → S30
  | ⟨f, l⟩ => ⟨f, if f < 0 then [] else cloneTs l⟩
def cloneTs : List S30 → List S30
  | [] => []
  | x :: r => cloneT x :: cloneTs r
end
theorem cloneTs_eq (l : List S30) : cloneTs l = l.map cloneT := by
  induction l with
  | nil => rfl
  | cons x l ih => simp [cloneTs, ih]
theorem cmp_clone : ∀ x : S30, cmpT (cloneT x) x = 0 := by
  refine S30.ind ?_
  intro f l ih
  have hl : ∀ (l : List S30), (∀ x ∈ l, cmpT (cloneT x) x = 0) → cmpTs (cloneTs l) l = 0 := by
    intro l
    induction l with
    | nil => intro _; simp [cloneTs, cmpTs]
    | cons x l ihl =>
      intro h
      simp only [cloneTs, cmpTs, h x (by simp), if_true]
      exact ihl (fun x hx => h x (by simp [hx]))
  simp only [cloneT, cmpT]
  by_cases hf : f < 0
  · simp [hf, cmpI_self]
  · simp only [hf, or_self, and_self, if_false]
    rw [hl l ih, cmpI_self, cloneTs_eq, List.length_map, cmpI_self]
    rfl
theorem Clone_spec : ∀ t : S30, ok t → Ev (fun k => term_Clone.f k t.f0 t.f1) ((cloneT t).f0, (cloneT t).f1) := by
  refine S30.ind ?_
  intro f l ih hok
  obtain ⟨_, _, hl, hks⟩ := hok
  have hloop : ∀ (q : List S30), q.length ≤ 20 → (∀ x ∈ q, x ∈ l) → ∀ (m i : Nat), q.length - i = m → i ≤ q.length → Ev (fun k => term_Clone.l0 k q (q.length : Int) (i : Int) f ((q.take i).map cloneT)) (f, q.map cloneT) := by
    intro q hq20 hql m
    induction m with
    | zero =>
      intro i hi hle
      refine Ev.step (f := fun _ => some (f, q.map cloneT)) (fun k => ?_) (Ev.now _)
      rw [term_Clone.l0, if_neg (by omega), List.take_of_length_le (by omega)]
    | succ m ihm =>
      intro i hi hle
      have hlt : i < q.length := by omega
      have hm := hql _ (List.getElem_mem hlt)
      have he := ih q[i] hm (oks_mem hks _ hm)
      refine Ev.step (f := fun k => (term_Clone.f k q[i].f0 q[i].f1).bind fun t => if ((q.take i).map cloneT).length < 4398046511104 then term_Clone.l0 k q (q.length : Int) ((i + 1 : Nat) : Int) f ((q.take i).map cloneT ++ [(⟨t.1, t.2⟩ : S30)]) else none) (fun k => ?_) (Ev.bind he ?_)
      · rw [term_Clone.l0, if_pos (by omega), if_pos (by omega), if_pos (by omega), rd30_at q i hlt, show wrap64 ((i : Int) + 1) = ((i + 1 : Nat) : Int) from by rw [w64 _ (by omega)]; omega]
      · simp only [List.length_map, List.length_take]
        simp only [if_pos (show min i q.length < 4398046511104 by omega)]
        have := ihm (i + 1) (by omega) (by omega)
        rw [List.take_succ_eq_append_getElem hlt, List.map_append] at this
        simp only [S30.eta]
        exact this
  by_cases hf : f < 0
  · refine Ev.step (f := fun k => term_Clone.l0 k [] (([] : List S30).length : Int) 0 f []) (fun k => ?_) ?_
    · rw [term_Clone.f]; simp [term_parts.f, hf]
    · have := hloop [] (by simp) (by simp) 0 0 rfl (by simp)
      simpa [cloneT, hf] using this
  · refine Ev.step (f := fun k => term_Clone.l0 k l (l.length : Int) 0 f []) (fun k => ?_) ?_
    · rw [term_Clone.f]; simp [term_parts.f, hf]
    · have := hloop l hl (fun x hx => hx) l.length 0 rfl (by omega)
      simpa [cloneT, hf, cloneTs_eq] using this
theorem Same_of (x y : S30) : term_Same.f x.f0 x.f1 y.f0 y.f1 = some (cmpT x y == 0) := by
  simp only [term_Same.f, term_Compare.f, S30.eta, Option.bind_some]
theorem Cmp_of (x y : S30) : term_Compare.f x.f0 x.f1 y.f0 y.f1 = some (cmpT x y) := by
  simp only [term_Compare.f, S30.eta]
end Go.Proofs.Ytpfddihcikiofaa.P
