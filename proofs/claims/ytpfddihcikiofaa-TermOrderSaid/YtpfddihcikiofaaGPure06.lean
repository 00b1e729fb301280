/- Plain law, layer 6: how small a tree is that is looked at; the terms of document and program are one. -/
import Derived.Test.YtpfddihcikiofaaTree
import Derived.Test.YtpfddihcikiofaaPxSoriteslaw06Small
import Derived.Test.YtpfddihcikiofaaPxSoriteslaw06Fine
import Derived.Test.YtpfddihcikiofaaPxSoriteslaw06Of
namespace Go.Proofs.Ytpfddihcikiofaa.P
open Go.RowKit Go.Proofs.YtpfddihcikiofaaW.PrintWords Go.Proofs.YtpfddihcikiofaaW.PrintLast Go.Proofs.YtpfddihcikiofaaW.PrintMore
set_option linter.unusedVariables false
set_option linter.unusedSimpArgs false

mutual
/-- How many nodes, the parts of variables too. -/
def wt : S30 → Nat
  | ⟨_, l⟩ => 1 + wts l
def wts : List S30 → Nat
  | [] => 0
  | x :: r => wt x + wts r
end
mutual
/-- Numbers and lists are small, to the leaves. -/
def ok : S30 → Prop
  | ⟨f, l⟩ => -1000 ≤ f ∧ f ≤ 1000 ∧ l.length ≤ 20 ∧ oks l
def oks : List S30 → Prop
  | [] => True
  | x :: r => ok x ∧ oks r
end
theorem oks_mem {l : List S30} (h : oks l) : ∀ x ∈ l, ok x := by
  induction l with
  | nil => intro x hx; cases hx
  | cons y l ih =>
    intro x hx
    rcases List.mem_cons.1 hx with rfl | hx
    · exact h.1
    · exact ih h.2 x hx
theorem oks_of {l : List S30} (h : ∀ x ∈ l, ok x) : oks l := by
  induction l with
  | nil => trivial
  | cons y l ih => exact ⟨h y (by simp), ih (fun x hx => h x (by simp [hx]))⟩
theorem wts_snoc (l : List S30) (x : S30) : wts (l ++ [x]) = wts l + wt x := by
  induction l with
  | nil => simp [wts]
  | cons y l ih => simp only [List.cons_append, wts, ih]; omega
theorem wts_take (l : List S30) (k : Nat) (h : k < l.length) : wts (l.take (k + 1)) = wts (l.take k) + wt l[k] := by
  rw [List.take_succ_eq_append_getElem h, wts_snoc]
theorem S30.eta (t : S30) : (⟨t.f0, t.f1⟩ : S30) = t := by cases t; rfl
theorem wt_pos (t : S30) : 1 ≤ wt t := by
  obtain ⟨f, l⟩ := t
  simp only [wt]
  omega
theorem w64 (n : Int) (h : -9223372036854775808 ≤ n ∧ n ≤ 9223372036854775807) : wrap64 n = n := by unfold wrap64; omega
theorem rd_at (l : List S30) (k : Nat) (h : k < l.length) : rd_T24 l (k : Int) = l[k] := by
  unfold rd_T24
  simp [List.getD, List.getElem?_eq_getElem h]

theorem Small_j0_f (k : Nat) (a1 a2 : Int) (b : Bool) (f : Int) (l : List S24) : soriteslaw06_Small.j0 (k + 1) a1 a2 b f l = if b = true then some (-1) else soriteslaw06_Small.l0 k (wrap64 (a1 - 1)) a2 0 f l := by rw [soriteslaw06_Small.j0]
/-- What Small tells: below 0, or how much is left. -/
theorem Small_spec : ∀ (D : Nat) (t : S24) (most deep : Int), deep = (D : Int) - 1 → D ≤ 1000 → 0 ≤ most → most ≤ 1000 →
    ∃ r, Ev (fun k => soriteslaw06_Small.f k t.f0 t.f1 most deep) r ∧ r ≤ most - 1 ∧ -1 ≤ r ∧ (0 ≤ r → ok t ∧ (wt t : Int) = most - r) := by
  intro D
  induction D with
  | zero =>
    intro t most deep hd _ h0 h1
    refine ⟨-1, Ev.step (f := fun k => soriteslaw06_Small.j0 k most deep true t.f0 t.f1) (fun k => ?_) (Ev.step (f := fun _ => some (-1)) (fun k => ?_) (Ev.now _)), by omega, by omega, fun h => by omega⟩
    · rw [soriteslaw06_Small.f]
      rw [if_pos (by omega)]
    · rw [Small_j0_f]
      simp
  | succ D ih =>
    intro t most deep hd hD h0 h1
    obtain ⟨f, l⟩ := t
    by_cases hb : f < -1000 ∨ f > 1000 ∨ (l.length : Int) > 20
    · refine ⟨-1, Ev.step (f := fun k => soriteslaw06_Small.j0 k most deep true f l) (fun k => ?_) (Ev.step (f := fun _ => some (-1)) (fun k => ?_) (Ev.now _)), by omega, by omega, fun h => by omega⟩
      · rw [soriteslaw06_Small.f]
        rw [if_neg (by omega)]
        by_cases h2 : f < -1000
        · rw [if_pos h2]
        · rw [if_neg h2]
          by_cases h3 : f > 1000
          · rw [if_pos h3]
          · rw [if_neg h3, show decide ((l.length : Int) > 20) = true from decide_eq_true (by omega)]
      · rw [Small_j0_f]
        simp
    · have hl : l.length ≤ 20 := by omega
      -- the loop from the i-th on
      have hloop : ∀ (m i : Nat), l.length - i = m → i ≤ l.length → ∀ q : Int, q ≤ most - 1 → -1 ≤ q → (0 ≤ q → oks (l.take i) ∧ (1 + wts (l.take i) : Nat) = most - q) →
          ∃ r, Ev (fun k => soriteslaw06_Small.l0 k q deep (i : Int) f l) r ∧ r ≤ most - 1 ∧ -1 ≤ r ∧ (0 ≤ r → oks l ∧ ((1 + wts l : Nat) : Int) = most - r) := by
        intro m
        induction m with
        | zero =>
          intro i hi hle q hq1 hq2 hq3
          have : i = l.length := by omega
          subst this
          refine ⟨q, Ev.step (f := fun _ => some q) (fun k => ?_) (Ev.now q), hq1, hq2, fun h => ?_⟩
          · rw [soriteslaw06_Small.l0, if_neg (by omega)]
          · have := hq3 h
            rw [List.take_length] at this
            exact this
        | succ m ihm =>
          intro i hi hle q hq1 hq2 hq3
          by_cases hq : q ≥ 0
          · have hlt : i < l.length := by omega
            obtain ⟨r1, he, hr1, hr2, hr3⟩ := ih l[i] q (wrap64 (deep - 1)) (by rw [w64 _ (by omega)]; omega) (by omega) hq (by omega)
            obtain ⟨r, he2, h3⟩ := ihm (i + 1) (by omega) (by omega) r1 (by omega) (by omega) (fun h => by
              have h4 := hr3 h
              have h5 := hq3 hq
              refine ⟨?_, ?_⟩
              · rw [List.take_succ_eq_append_getElem hlt]
                refine oks_of (fun x hx => ?_)
                rcases List.mem_append.1 hx with hx | hx
                · exact oks_mem h5.1 x hx
                · rw [List.mem_singleton] at hx
                  exact hx ▸ h4.1
              · rw [wts_take l i hlt]
                have := h5.2
                have := h4.2
                omega)
            refine ⟨r, ?_, h3⟩
            refine Ev.step (f := fun k => (soriteslaw06_Small.f k l[i].f0 l[i].f1 q (wrap64 (deep - 1))).bind fun t => soriteslaw06_Small.l0 k t deep ((i + 1 : Nat) : Int) f l) (fun k => ?_) (Ev.bind he he2)
            rw [soriteslaw06_Small.l0, if_pos (by omega), if_pos hq, if_pos (by omega), rd_at l i hlt, show wrap64 ((i : Int) + 1) = ((i + 1 : Nat) : Int) from by rw [w64 _ (by omega)]; omega]
          · refine ⟨q, Ev.step (f := fun _ => some q) (fun k => ?_) (Ev.now q), hq1, hq2, fun h => by omega⟩
            rw [soriteslaw06_Small.l0, if_pos (by omega), if_neg hq]
      obtain ⟨r, he, h1', h2', h3'⟩ := hloop l.length 0 rfl (by omega) (most - 1) (by omega) (by omega) (fun _ => ⟨trivial, by simp [wts]; omega⟩)
      refine ⟨r, ?_, h1', h2', fun h => ⟨⟨by show -1000 ≤ f; omega, by show f ≤ 1000; omega, hl, (h3' h).1⟩, (h3' h).2⟩⟩
      refine Ev.step (f := fun k => soriteslaw06_Small.j0 k most deep false f l) (fun k => ?_) (Ev.step (f := fun k => soriteslaw06_Small.l0 k (most - 1) deep 0 f l) (fun k => ?_) he)
      · show soriteslaw06_Small.f (k + 1) f l most deep = _
        rw [soriteslaw06_Small.f, if_neg (by omega), if_neg (by omega), if_neg (by omega)]
        rw [show decide ((l.length : Int) > 20) = false from decide_eq_false (by omega)]
      · rw [Small_j0_f, w64 _ (by omega)]
        simp
/-- A tree that is looked at. -/
def Ok (t : S30) : Prop := ok t ∧ wt t ≤ 60
theorem Fine_spec (l : List S24) (hl : l.length ≤ 1000) : ∃ r, Ev (fun k => soriteslaw06_Fine.f k l) r ∧ (r = true → ∀ t ∈ l, Ok t) := by
  have hloop : ∀ (m i : Nat), l.length - i = m → i ≤ l.length → (∀ t ∈ l.take i, Ok t) → ∃ r, Ev (fun k => soriteslaw06_Fine.l0 k l (i : Int)) r ∧ (r = true → ∀ t ∈ l, Ok t) := by
    intro m
    induction m with
    | zero =>
      intro i hi hle hq
      refine ⟨true, Ev.step (f := fun _ => some true) (fun k => ?_) (Ev.now _), fun _ => ?_⟩
      · rw [soriteslaw06_Fine.l0, if_neg (by omega)]
      · rw [List.take_of_length_le (by omega)] at hq
        exact hq
    | succ m ihm =>
      intro i hi hle hq
      have hlt : i < l.length := by omega
      obtain ⟨r1, he, _, _, hr⟩ := Small_spec 21 l[i] 60 20 (by omega) (by omega) (by omega) (by omega)
      by_cases h0 : r1 < 0
      · refine ⟨false, Ev.step (f := fun k => (soriteslaw06_Small.f k l[i].f0 l[i].f1 60 20).bind fun t => if t < 0 then some false else soriteslaw06_Fine.l0 k l ((i + 1 : Nat) : Int)) (fun k => ?_) (Ev.bind he ?_), fun h => by cases h⟩
        · rw [soriteslaw06_Fine.l0, if_pos (by omega), if_pos (by omega), rd_at l i hlt, show wrap64 ((i : Int) + 1) = ((i + 1 : Nat) : Int) from by rw [w64 _ (by omega)]; omega]
        · simp only [if_pos h0]
          exact Ev.now _
      · obtain ⟨r, he2, h3⟩ := ihm (i + 1) (by omega) (by omega) (fun t ht => by
          rw [List.take_succ_eq_append_getElem hlt] at ht
          rcases List.mem_append.1 ht with ht | ht
          · exact hq t ht
          · rw [List.mem_singleton] at ht
            have := hr (by omega)
            subst ht
            exact ⟨this.1, by omega⟩)
        refine ⟨r, Ev.step (f := fun k => (soriteslaw06_Small.f k l[i].f0 l[i].f1 60 20).bind fun t => if t < 0 then some false else soriteslaw06_Fine.l0 k l ((i + 1 : Nat) : Int)) (fun k => ?_) (Ev.bind he ?_), h3⟩
        · rw [soriteslaw06_Fine.l0, if_pos (by omega), if_pos (by omega), rd_at l i hlt, show wrap64 ((i : Int) + 1) = ((i + 1 : Nat) : Int) from by rw [w64 _ (by omega)]; omega]
        · simp only [if_neg h0]
          exact he2
  obtain ⟨r, he, h⟩ := hloop l.length 0 rfl (by omega) (fun t ht => by simp at ht)
  exact ⟨r, he, h⟩
/-- The terms are one. -/
theorem Of_spec : ∀ t : S30, ok t → Ev (fun k => soriteslaw06_Of.f k t.f0 t.f1) (t.f0, t.f1) := by
  refine S30.ind ?_
  intro f l ih hok
  obtain ⟨_, _, hl, hks⟩ := hok
  have hloop : ∀ (m i : Nat), l.length - i = m → i ≤ l.length → Ev (fun k => soriteslaw06_Of.l0 k (i : Int) f l f (l.take i)) (f, l) := by
    intro m
    induction m with
    | zero =>
      intro i hi hle
      refine Ev.step (f := fun _ => some (f, l)) (fun k => ?_) (Ev.now _)
      rw [soriteslaw06_Of.l0, if_neg (by omega), List.take_of_length_le (by omega)]
    | succ m ihm =>
      intro i hi hle
      have hlt : i < l.length := by omega
      have he := ih l[i] (List.getElem_mem hlt) (oks_mem hks _ (List.getElem_mem hlt))
      refine Ev.step (f := fun k => (soriteslaw06_Of.f k l[i].f0 l[i].f1).bind fun t => if (l.take i).length < 4398046511104 then soriteslaw06_Of.l0 k ((i + 1 : Nat) : Int) f l f (l.take i ++ [(⟨t.1, t.2⟩ : S30)]) else none) (fun k => ?_) (Ev.bind he ?_)
      · rw [soriteslaw06_Of.l0, if_pos (by omega), if_pos (by omega), rd_at l i hlt, show wrap64 ((i : Int) + 1) = ((i + 1 : Nat) : Int) from by rw [w64 _ (by omega)]; omega]
      · simp only [List.length_take]
        simp only [if_pos (show min i l.length < 4398046511104 by omega)]
        have := ihm (i + 1) (by omega) (by omega)
        rw [List.take_succ_eq_append_getElem hlt] at this
        simp only [S30.eta]
        exact this
  refine Ev.step (f := fun k => soriteslaw06_Of.l0 k 0 f l f []) (fun k => ?_) ?_
  · rw [soriteslaw06_Of.f]
  · exact hloop l.length 0 rfl (by omega)
end Go.Proofs.Ytpfddihcikiofaa.P
