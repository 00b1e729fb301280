/- The law OrderTells holds of every input. Part 6 of 6: PxSoritesref14Looked, GLooks, GLooks2, GTells1, PxSoritesref14Orient, GTells3, GTells4, GTellsR, GTells5, GTells6, GTells2, LawOrderTells. -/
import Derived.Test.YtpfddihcikiofaaZOrderTells2
import Derived.Test.YtpfddihcikiofaaZOrderTells5
import Derived.Test.YtpfddihcikiofaaZOrderTells4
import Derived.Test.YtpfddihcikiofaaZOrderTells3
import Derived.Test.YtpfddihcikiofaaRows
import Derived.WalkKit
import Derived.ProofKit
import Derived.OpenShut
import Derived.ShutString
import Derived.ChangeOld
import Derived.Below
import Derived.SizedLaws
import Derived.Test.YtpfddihcikiofaaZOrderTells1
namespace Go.Proofs.Ytpfddihcikiofaa.P
open Go.RowKit Go.Proofs.YtpfddihcikiofaaW.PrintWords Go.Proofs.YtpfddihcikiofaaW.PrintLast Go.Proofs.YtpfddihcikiofaaW.PrintMore
set_option linter.unusedVariables false
set_option linter.unusedSimpArgs false
section
attribute [local go_sem] max2_int min2_int max_two min_two yal_ yak_ max_four min_four
mutual
def soritesref14_Looked.l0 : Nat → List (S81) → Int → Int → Option (List Int)
 | 0, _, _, _ => none
 | k + 1, x0, x3, x4 => if x4 < (x0.length : Int) then (if 0 ≤ x4 then (if (rd_T81 x0 x4).f0 = true then ((soritesref14_weight.f k ((rd_T81 x0 x4).f0) ((rd_T81 x0 x4).f1.f0) ((rd_T81 x0 x4).f1.f1) ((rd_T81 x0 x4).f2.f0) ((rd_T81 x0 x4).f2.f1)).bind fun t457 => (if t457 > x3 then ((soritesref14_weight.f k ((rd_T81 x0 x4).f0) ((rd_T81 x0 x4).f1.f0) ((rd_T81 x0 x4).f1.f1) ((rd_T81 x0 x4).f2.f0) ((rd_T81 x0 x4).f2.f1)).bind fun t459 => (soritesref14_Looked.l0 k x0 t459 (wrap64 (x4 + 1)))) else (soritesref14_Looked.l0 k x0 x3 (wrap64 (x4 + 1))))) else (soritesref14_Looked.l0 k x0 x3 (wrap64 (x4 + 1)))) else (none)) else (soritesref14_Looked.l1 k x0 x3 ([] : List Int) 0)
def soritesref14_Looked.l1 : Nat → List (S81) → Int → List Int → Int → Option (List Int)
 | 0, _, _, _, _ => none
 | k + 1, x0, x3, x5, x6 => if x6 < (x0.length : Int) then (if x3 > 0 then (if 0 ≤ x6 then (if (rd_T81 x0 x6).f0 = true then ((soritesref14_weight.f k ((rd_T81 x0 x6).f0) ((rd_T81 x0 x6).f1.f0) ((rd_T81 x0 x6).f1.f1) ((rd_T81 x0 x6).f2.f0) ((rd_T81 x0 x6).f2.f1)).bind fun t462 => (soritesref14_Looked.j2 k x0 x3 x5 x6 (t462 == x3))) else (soritesref14_Looked.j2 k x0 x3 x5 x6 false)) else (none)) else (soritesref14_Looked.j2 k x0 x3 x5 x6 false)) else (some x5)
def soritesref14_Looked.j2 : Nat → List (S81) → Int → List Int → Int → Bool → Option (List Int)
 | 0, _, _, _, _, _ => none
 | k + 1, x0, x3, x5, x6, x55 => if x55 = true then (some (([x6] : List Int))) else (if x3 = 0 then ((soritesref14_Greatest.f k x0 x6).bind fun t466 => (if t466 = true then (if x5.length < 17592186044416 then (soritesref14_Looked.l1 k x0 x3 (x5 ++ [x6]) (wrap64 (x6 + 1))) else (none)) else (soritesref14_Looked.l1 k x0 x3 x5 (wrap64 (x6 + 1))))) else (soritesref14_Looked.l1 k x0 x3 x5 (wrap64 (x6 + 1))))
end
def soritesref14_Looked.f (k : Nat) (l0 : List (S81)) : Option (List Int) := soritesref14_Looked.l0 k l0 0 0
end
section
def okLit (m : Nat) (x : S78) : Prop := ok x.f1 ∧ wt x.f1 ≤ m ∧ ok x.f2 ∧ wt x.f2 ≤ m
theorem okLit.fit {m : Nat} {x : S78} (h : okLit m x) (hm : m ≤ 1000) : fitL x :=
 ⟨fit_of_ok x.f1 h.1 (by have := nodes_le x.f1; have := h.2.1; omega), fit_of_ok x.f2 h.2.2.1 (by have := nodes_le x.f2; have := h.2.2.2; omega)⟩
theorem rd81_at (l : List S81) (k : Nat) (h : k < l.length) : rd_T81 l (k : Int) = l[k] := by
 unfold rd_T81
 simp [List.getD, List.getElem?_eq_getElem h]
theorem Fine11_spec (l : List S81) (n : Nat) (m : Nat) (hn : n ≤ 1000) (hm : m ≤ 1000) : ∃ r, Ev (fun k => soriteslaw11_Fine.f k l (n : Int) (m : Int)) r ∧ (r = true → l.length ≤ n ∧ ∀ x ∈ l, okLit m x) := by
 by_cases hl : (l.length : Int) > (n : Int)
 ·exact ⟨false, Ev.congr (f := fun _ => some false) (fun k => by rw [soriteslaw11_Fine.f, if_pos hl]) (Ev.now _), fun h => by cases h⟩
 have hloop : ∀ (d i : Nat), l.length - i = d → i ≤ l.length → (∀ x ∈ l.take i, okLit m x) → ∃ r, Ev (fun k => soriteslaw11_Fine.l0 k l (m : Int) (i : Int)) r ∧ (r = true → ∀ x ∈ l, okLit m x) := by
  intro d
  induction d with
  | zero =>
   intro i hi hle hq
   refine ⟨true, Ev.step (f := fun _ => some true) (fun k => by rw [soriteslaw11_Fine.l0, if_neg (by omega)]) (Ev.now _), fun _ => ?_⟩
   rw [List.take_of_length_le (by omega)] at hq
   exact hq
  | succ d ih =>
   intro i hi hle hq
   have hlt : i < l.length := by omega
   obtain ⟨r1, he1, _, _, hr1⟩ := Small_spec 9 l[i].f1 (m : Int) 8 (by omega) (by omega) (by omega) (by omega)
   obtain ⟨r2, he2, _, _, hr2⟩ := Small_spec 9 l[i].f2 (m : Int) 8 (by omega) (by omega) (by omega) (by omega)
   have hst : ∀ k, soriteslaw11_Fine.l0 (k + 1) l (m : Int) (i : Int) = (soriteslaw06_Small.f k l[i].f1.f0 l[i].f1.f1 (m : Int) 8).bind fun t => if t < 0 then some false else ((soriteslaw06_Small.f k l[i].f2.f0 l[i].f2.f1 (m : Int) 8).bind fun t => if t < 0 then some false else soriteslaw11_Fine.l0 k l (m : Int) ((i + 1 : Nat) : Int)) := fun k => by
    rw [soriteslaw11_Fine.l0, if_pos (by omega), if_pos (by omega), rd81_at l i hlt, wsucc i l.length hlt (by omega)]
   by_cases h1 : r1 < 0
   ·refine ⟨false, Ev.step hst (Ev.bind he1 ?_), fun h => by cases h⟩
    simp only [if_pos h1]
    exact Ev.now _
   by_cases h2 : r2 < 0
   ·refine ⟨false, Ev.step hst (Ev.bind he1 ?_), fun h => by cases h⟩
    simp only [if_neg h1]
    refine Ev.bind he2 ?_
    simp only [if_pos h2]
    exact Ev.now _
   obtain ⟨r, he, h3⟩ := ih (i + 1) (by omega) (by omega) (fun x hx => by
    rw [List.take_succ_eq_append_getElem hlt] at hx
    rcases List.mem_append.1 hx with hx | hx
    ·exact hq x hx
    ·rw [List.mem_singleton] at hx
     subst hx
     have h4 := hr1 (by omega)
     have h5 := hr2 (by omega)
     exact ⟨h4.1, by omega, h5.1, by omega⟩)
   refine ⟨r, Ev.step hst (Ev.bind he1 ?_), h3⟩
   simp only [if_neg h1]
   refine Ev.bind he2 ?_
   simp only [if_neg h2]
   exact he
 obtain ⟨r, he, h⟩ := hloop l.length 0 rfl (by omega) (fun x hx => by simp at hx)
 refine ⟨r, Ev.congr (f := fun k => soriteslaw11_Fine.l0 k l (m : Int) ((0 : Nat) : Int)) (fun k => by rw [soriteslaw11_Fine.f, if_neg hl]; rfl) he, fun hr => ⟨by omega, h hr⟩⟩
theorem S78.eta (x : S78) : (⟨x.f0, x.f1, x.f2⟩ : S78) = x := by cases x; rfl
theorem Of11_spec (l : List S81) (hl : l.length ≤ 1000) (hok : ∀ x ∈ l, ok x.f1 ∧ ok x.f2) : Ev (fun k => soriteslaw11_Of.f k l) l := by
 have hloop : ∀ (m i : Nat), l.length - i = m → i ≤ l.length → Ev (fun k => soriteslaw11_Of.l0 k l (l.take i) (i : Int)) l := by
  intro m
  induction m with
  | zero =>
   intro i hi hle
   refine Ev.step (f := fun _ => some l) (fun k => ?_) (Ev.now _)
   rw [soriteslaw11_Of.l0, if_neg (by omega), List.take_of_length_le (by omega)]
  | succ m ihm =>
   intro i hi hle
   have hlt : i < l.length := by omega
   obtain ⟨h1, h2⟩ := hok _ (List.getElem_mem hlt)
   refine Ev.step (f := fun k => (soriteslaw06_Of.f k l[i].f1.f0 l[i].f1.f1).bind fun t => (soriteslaw06_Of.f k l[i].f2.f0 l[i].f2.f1).bind fun s => if (l.take i).length < 1954687338268 then soriteslaw11_Of.l0 k l (l.take i ++ [(⟨l[i].f0, (⟨t.1, t.2⟩ : S30), (⟨s.1, s.2⟩ : S30)⟩ : S78)]) ((i + 1 : Nat) : Int) else none) (fun k => ?_) (Ev.bind (Of_spec l[i].f1 h1) (Ev.bind (Of_spec l[i].f2 h2) ?_))
   ·rw [soriteslaw11_Of.l0, if_pos (by omega), if_pos (by omega), rd81_at l i hlt, wsucc i l.length hlt (by omega)]
   ·simp only [List.length_take]
    simp only [if_pos (show min i l.length < 1954687338268 by omega)]
    have := ihm (i + 1) (by omega) (by omega)
    rw [List.take_succ_eq_append_getElem hlt] at this
    simp only [S30.eta, S78.eta]
    exact this
 exact hloop l.length 0 rfl (by omega)
theorem grL_irrefl (x : S78) : grL x x = false := multi_irrefl _
theorem grL_trans (x y z : S78) (h : grL x y = true) (k : grL y z = true) : grL x z = true := multi_trans _ _ _ h k
def gstL (l : List S78) (y : S78) : Bool := !(l.any fun x => grL x y)
theorem gr78_of {x y : S78} (hx : fitL x) (hy : fitL y) : gr78 x y = some (grL x y) := OGreater_of hx hy
theorem OGreatest_of {l : List S78} (hl : ∀ x ∈ l, fitL x) (i : Nat) (hi : i < l.length) : order_Greatest.f l (i : Int) = some (gstL l l[i]) := by
 have hfi := hl _ (List.getElem_mem hi)
 unfold order_Greatest.f
 rw [if_neg (by omega), rd78_at l i hi, if_pos (List.all_eq_true.2 (fun x hx => by rw [gr78_of (hl x hx) hfi]; rfl))]
 congr 2
 rw [Bool.eq_iff_iff, List.any_eq_true, List.any_eq_true]
 constructor
 ·rintro ⟨x, hx, h⟩
  rw [gr78_of (hl x hx) hfi] at h
  exact ⟨x, hx, by simpa using h⟩
 ·rintro ⟨x, hx, h⟩
  exact ⟨x, hx, by rw [gr78_of (hl x hx) hfi, h]; rfl⟩
theorem RGreatest_spec {l : List S78} (hl : ∀ x ∈ l, fitL x) (hn : l.length ≤ 1000000) (i : Nat) (hi : i < l.length) : Ev (fun k => soritesref14_Greatest.f k l (i : Int)) (gstL l l[i]) := by
 have key : ∀ (n j : Nat), l.length - j = n → j ≤ l.length → Ev (fun k => soritesref14_Greatest.l0 k l (i : Int) (j : Int)) (!((l.drop j).any fun x => grL x l[i])) := by
  intro n
  induction n with
  | zero =>
   intro j hj hle
   refine Ev.step (f := fun _ => some true) (fun k => by rw [soritesref14_Greatest.l0, if_neg (by omega)]) ?_
   rw [List.drop_of_length_le (by omega)]
   exact Ev.now _
  | succ n ihn =>
   intro j hj hle
   have hlt : j < l.length := by omega
   rw [List.drop_eq_getElem_cons hlt, List.any_cons]
   refine Ev.step (f := fun k => (soritesref14_Greater.f k l[j].f0 l[j].f1.f0 l[j].f1.f1 l[j].f2.f0 l[j].f2.f1 l[i].f0 l[i].f1.f0 l[i].f1.f1 l[i].f2.f0 l[i].f2.f1).bind fun t => if t = true then some false else soritesref14_Greatest.l0 k l (i : Int) ((j + 1 : Nat) : Int)) (fun k => ?_) (Ev.bind (RGreaterL_spec (hl _ (List.getElem_mem hlt)) (hl _ (List.getElem_mem hi))) ?_)
   ·rw [soritesref14_Greatest.l0, if_pos (by omega), if_pos (by omega), if_pos (by omega), if_pos (by omega), rd81_at l j hlt, rd81_at l i hi, wsucc j l.length hlt (by omega)]
   ·cases hg : grL l[j] l[i] with
    | true => simp only [if_true, Bool.true_or]; exact Ev.now _
    | false => simp only [Bool.false_eq_true, if_false, Bool.false_or]; exact ihn (j + 1) (by omega) (by omega)
 exact key l.length 0 rfl (by omega)
def wtL (x : S78) : Nat := (nodes x.f1).length + (nodes x.f2).length
theorem OWeight_of {x : S78} (h : fitL x) : order_weight.f x.f0 x.f1.f0 x.f1.f1 x.f2.f0 x.f2.f1 = some (wtL x : Int) := by
 unfold order_weight.f
 rw [Size_fit h.1, Option.bind_some, Size_fit h.2, Option.bind_some]
 have := h.1.1
 have := h.2.1
 rw [w64 _ (by omega)]
 unfold wtL
 rw [Int.natCast_add]
theorem RWeight_spec {x : S78} (h : fitL x) : Ev (fun k => soritesref14_weight.f k x.f0 x.f1.f0 x.f1.f1 x.f2.f0 x.f2.f1) (wtL x : Int) := by
 unfold soritesref14_weight.f
 refine Ev.bind (RFlat_spec x.f1 h.1) (Ev.bind (RFlat_spec x.f2 h.2) ?_)
 have := h.1.1
 have := h.2.1
 rw [w64 _ (by omega)]
 unfold wtL
 rw [Int.natCast_add]
 exact Ev.now _
theorem wt_pos' (x : S78) : 0 < wtL x := by unfold wtL; have := nodes_pos x.f1; omega
def col (l : List S78) : Nat → Nat → List Int
 | 0, _ => []
 | n + 1, i => if gstL l (l.getD i z78) = true then (i : Int) :: col l n (i + 1) else col l n (i + 1)
theorem getD_at (l : List S78) (i : Nat) (h : i < l.length) : l.getD i z78 = l[i] := by simp [List.getD, List.getElem?_eq_getElem h]
theorem Ocol {l : List S78} (hl : ∀ x ∈ l, fitL x) (hn : l.length ≤ 1000000) : ∀ (n i : Nat), l.length - i = n → i ≤ l.length → ∀ o : List Int, o.length ≤ i → Ev (fun k => order_Looked.l1 k l o (l.length : Int) (i : Int)) (o ++ col l n i) := by
 intro n
 induction n with
 | zero =>
  intro i hi hle o ho
  refine Ev.step (f := fun _ => some o) (fun k => by rw [order_Looked.l1, if_neg (by omega)]) ?_
  rw [col, List.append_nil]
  exact Ev.now _
 | succ n ihn =>
  intro i hi hle o ho
  have hlt : i < l.length := by omega
  rw [col, getD_at l i hlt]
  cases hg : gstL l l[i] with
  | true =>
   refine Ev.step (f := fun k => order_Looked.l1 k l (o ++ [(i : Int)]) (l.length : Int) ((i + 1 : Nat) : Int)) (fun k => ?_) ?_
   ·rw [order_Looked.l1, if_pos (by omega), OGreatest_of hl i hlt, Option.bind_some, if_pos hg, if_pos (by omega), wsucc i l.length hlt (by omega)]
   ·have := ihn (i + 1) (by omega) (by omega) (o ++ [(i : Int)]) (by rw [List.length_append, List.length_singleton]; omega)
    rw [List.append_assoc] at this
    exact this
  | false =>
   refine Ev.step (f := fun k => order_Looked.l1 k l o (l.length : Int) ((i + 1 : Nat) : Int)) (fun k => ?_) (ihn (i + 1) (by omega) (by omega) o (by omega))
   rw [order_Looked.l1, if_pos (by omega), OGreatest_of hl i hlt, Option.bind_some, if_neg (by rw [hg]; decide), wsucc i l.length hlt (by omega)]
theorem Rcol {l : List S78} (hl : ∀ x ∈ l, fitL x) (hn : l.length ≤ 1000000) : ∀ (n i : Nat), l.length - i = n → i ≤ l.length → ∀ o : List Int, o.length ≤ i → Ev (fun k => soritesref14_Looked.l1 k l 0 o (i : Int)) (o ++ col l n i) := by
 intro n
 induction n with
 | zero =>
  intro i hi hle o ho
  refine Ev.step (f := fun _ => some o) (fun k => by rw [soritesref14_Looked.l1, if_neg (by omega)]) ?_
  rw [col, List.append_nil]
  exact Ev.now _
 | succ n ihn =>
  intro i hi hle o ho
  have hlt : i < l.length := by omega
  rw [col, getD_at l i hlt]
  refine Ev.step (f := fun k => soritesref14_Looked.j2 k l 0 o (i : Int) false) (fun k => by rw [soritesref14_Looked.l1, if_pos (by omega), if_neg (by decide)]) ?_
  refine Ev.step (f := fun k => (soritesref14_Greatest.f k l (i : Int)).bind fun t => if t = true then (if o.length < 17592186044416 then soritesref14_Looked.l1 k l 0 (o ++ [(i : Int)]) ((i + 1 : Nat) : Int) else none) else soritesref14_Looked.l1 k l 0 o ((i + 1 : Nat) : Int)) (fun k => ?_) (Ev.bind (RGreatest_spec hl hn i hlt) ?_)
  ·rw [soritesref14_Looked.j2, if_neg (by decide), if_pos rfl, wsucc i l.length hlt (by omega)]
  ·cases hg : gstL l l[i] with
   | true =>
    simp only [if_true, if_pos (show o.length < 17592186044416 by omega)]
    have := ihn (i + 1) (by omega) (by omega) (o ++ [(i : Int)]) (by rw [List.length_append, List.length_singleton]; omega)
    rw [List.append_assoc] at this
    exact this
   | false =>
    simp only [Bool.false_eq_true, if_false]
    exact ihn (i + 1) (by omega) (by omega) o (by omega)
theorem col_pos (l : List S78) : ∀ (n i j : Nat), i ≤ j → j < i + n → gstL l (l.getD j z78) = true → col l n i ≠ []
 | 0, i, j, h1, h2, _ => by omega
 | n + 1, i, j, h1, h2, h3 => by
  rw [col]
  split
  ·exact List.cons_ne_nil _ _
  ·rename_i h
   have : i ≠ j := fun e => h (by rw [e]; exact h3)
   exact col_pos l n (i + 1) j (by omega) (by omega) h3
end
section
def IsBest (l : List S78) (i b : Nat) : Prop := b < i ∧ (l.getD b z78).f0 = true ∧ (∀ j, j < i → (l.getD j z78).f0 = true → wtL (l.getD j z78) ≤ wtL (l.getD b z78)) ∧ ∀ j, j < b → (l.getD j z78).f0 = true → wtL (l.getD j z78) < wtL (l.getD b z78)
def NoNeg (l : List S78) (i : Nat) : Prop := ∀ j, j < i → (l.getD j z78).f0 = false
def InvB (l : List S78) (i : Nat) (x : Int) : Prop := (x = -1 ∧ NoNeg l i) ∨ ∃ b : Nat, x = (b : Int) ∧ IsBest l i b
def InvM (l : List S78) (i : Nat) (m : Int) : Prop := (m = 0 ∧ NoNeg l i) ∨ ∃ b : Nat, m = (wtL (l.getD b z78) : Int) ∧ IsBest l i b
theorem lt_succ_cases {P : Nat → Prop} {i : Nat} (h : ∀ j, j < i → P j) (hi : P i) : ∀ j, j < i + 1 → P j := fun j hj => by
 rcases Nat.lt_or_ge j i with h1 | h1
 ·exact h j h1
 ·rw [show j = i by omega]; exact hi
theorem IsBest.keep {l : List S78} {i b : Nat} (h : IsBest l i b) (hn : (l.getD i z78).f0 = true → wtL (l.getD i z78) ≤ wtL (l.getD b z78)) : IsBest l (i + 1) b :=
 ⟨by have := h.1; omega, h.2.1, lt_succ_cases h.2.2.1 hn, h.2.2.2⟩
theorem IsBest.new {l : List S78} {i b : Nat} (h : IsBest l i b) (hi : (l.getD i z78).f0 = true) (hn : wtL (l.getD b z78) < wtL (l.getD i z78)) : IsBest l (i + 1) i :=
 ⟨Nat.lt_succ_self _, hi, lt_succ_cases (fun j hj hjn => by have := h.2.2.1 j hj hjn; omega) (fun _ => Nat.le_refl _), fun j hj hjn => by have := h.2.2.1 j hj hjn; omega⟩
theorem IsBest.first {l : List S78} {i : Nat} (h : NoNeg l i) (hi : (l.getD i z78).f0 = true) : IsBest l (i + 1) i :=
 ⟨Nat.lt_succ_self _, hi, lt_succ_cases (fun j hj hjn => by rw [h j hj] at hjn; cases hjn) (fun _ => Nat.le_refl _), fun j hj hjn => by rw [h j hj] at hjn; cases hjn⟩
theorem IsBest.uniq {l : List S78} {i b c : Nat} (h : IsBest l i b) (k : IsBest l i c) : b = c := by
 rcases Nat.lt_trichotomy b c with hlt | he | hlt
 ·have h1 := k.2.2.2 b hlt h.2.1
  have h2 := h.2.2.1 c k.1 k.2.1
  omega
 ·exact he
 ·have h1 := h.2.2.2 c hlt k.2.1
  have h2 := k.2.2.1 b h.1 h.2.1
  omega
theorem Obest {l : List S78} (hl : ∀ x ∈ l, fitL x) (hn : l.length ≤ 1000000) : ∀ (n i : Nat), l.length - i = n → i ≤ l.length → ∀ x : Int, InvB l i x → ∃ x', InvB l l.length x' ∧ ∀ r, Ev (fun k => order_Looked.l0 k l x' l (l.length : Int) (l.length : Int)) r → Ev (fun k => order_Looked.l0 k l x l (l.length : Int) (i : Int)) r := by
 intro n
 induction n with
 | zero =>
  intro i hi hle x hx
  have : i = l.length := by omega
  subst this
  exact ⟨x, hx, fun r h => h⟩
 | succ n ihn =>
  intro i hi hle x hx
  have hlt : i < l.length := by omega
  have hfi := hl _ (List.getElem_mem hlt)
  have hgi := getD_at l i hlt
  have go : ∀ x2, InvB l (i + 1) x2 → (∀ r, Ev (fun k => order_Looked.l0 k l x2 l (l.length : Int) ((i + 1 : Nat) : Int)) r → Ev (fun k => order_Looked.l0 k l x l (l.length : Int) (i : Int)) r) → ∃ x', InvB l l.length x' ∧ ∀ r, Ev (fun k => order_Looked.l0 k l x' l (l.length : Int) (l.length : Int)) r → Ev (fun k => order_Looked.l0 k l x l (l.length : Int) (i : Int)) r := fun x2 h2 hs => by
   obtain ⟨x', h1, h3⟩ := ihn (i + 1) (by omega) (by omega) x2 h2
   exact ⟨x', h1, fun r h => hs r (h3 r h)⟩
  by_cases hneg : l[i].f0 = true
  ·rcases hx with ⟨rfl, hno⟩ | ⟨b, rfl, hb⟩
   ·refine go (i : Int) (.inr ⟨i, rfl, IsBest.first hno (by rw [hgi]; exact hneg)⟩) (fun r h => Ev.step (fun k => ?_) h)
    rw [order_Looked.l0, if_pos (by omega), if_pos (by omega), if_pos (by omega), rd78_at l i hlt, if_pos hneg, if_pos (by decide), wsucc i l.length hlt (by omega)]
   ·have hbl : b < l.length := by have := hb.1; omega
    have hfb := hl _ (List.getElem_mem hbl)
    have hgb := getD_at l b hbl
    by_cases hw : wtL l[b] < wtL l[i]
    ·refine go (i : Int) (.inr ⟨i, rfl, hb.new (by rw [hgi]; exact hneg) (by rw [hgi, hgb]; exact hw)⟩) (fun r h => Ev.step (fun k => ?_) h)
     rw [order_Looked.l0, if_pos (by omega), if_pos (by omega), if_pos (by omega), rd78_at l i hlt, if_pos hneg, if_neg (by omega), OWeight_of hfi, Option.bind_some, if_pos (by omega), if_pos (by omega), rd78_at l b hbl, OWeight_of hfb, Option.bind_some, if_pos (by omega), wsucc i l.length hlt (by omega)]
    ·refine go (b : Int) (.inr ⟨b, rfl, hb.keep (fun _ => by rw [hgi, hgb]; omega)⟩) (fun r h => Ev.step (fun k => ?_) h)
     rw [order_Looked.l0, if_pos (by omega), if_pos (by omega), if_pos (by omega), rd78_at l i hlt, if_pos hneg, if_neg (by omega), OWeight_of hfi, Option.bind_some, if_pos (by omega), if_pos (by omega), rd78_at l b hbl, OWeight_of hfb, Option.bind_some, if_neg (by omega), wsucc i l.length hlt (by omega)]
  ·have hnf : (l.getD i z78).f0 = false := by rw [hgi]; exact Bool.eq_false_iff.2 hneg
   refine go x ?_ (fun r h => Ev.step (fun k => ?_) h)
   ·rcases hx with ⟨rfl, hno⟩ | ⟨b, rfl, hb⟩
    ·exact .inl ⟨rfl, lt_succ_cases hno hnf⟩
    ·exact .inr ⟨b, rfl, hb.keep (fun h => by rw [hnf] at h; cases h)⟩
   ·rw [order_Looked.l0, if_pos (by omega), if_pos (by omega), if_pos (by omega), rd78_at l i hlt, if_neg hneg, wsucc i l.length hlt (by omega)]
theorem Rbest {l : List S78} (hl : ∀ x ∈ l, fitL x) (hn : l.length ≤ 1000000) : ∀ (n i : Nat), l.length - i = n → i ≤ l.length → ∀ x : Int, InvM l i x → ∃ x', InvM l l.length x' ∧ ∀ r, Ev (fun k => soritesref14_Looked.l0 k l x' (l.length : Int)) r → Ev (fun k => soritesref14_Looked.l0 k l x (i : Int)) r := by
 intro n
 induction n with
 | zero =>
  intro i hi hle x hx
  have : i = l.length := by omega
  subst this
  exact ⟨x, hx, fun r h => h⟩
 | succ n ihn =>
  intro i hi hle x hx
  have hlt : i < l.length := by omega
  have hfi := hl _ (List.getElem_mem hlt)
  have hgi := getD_at l i hlt
  have go : ∀ x2, InvM l (i + 1) x2 → (∀ r, Ev (fun k => soritesref14_Looked.l0 k l x2 ((i + 1 : Nat) : Int)) r → Ev (fun k => soritesref14_Looked.l0 k l x (i : Int)) r) → ∃ x', InvM l l.length x' ∧ ∀ r, Ev (fun k => soritesref14_Looked.l0 k l x' (l.length : Int)) r → Ev (fun k => soritesref14_Looked.l0 k l x (i : Int)) r := fun x2 h2 hs => by
   obtain ⟨x', h1, h3⟩ := ihn (i + 1) (by omega) (by omega) x2 h2
   exact ⟨x', h1, fun r h => hs r (h3 r h)⟩
  by_cases hneg : l[i].f0 = true
  ·have hst : ∀ k, soritesref14_Looked.l0 (k + 1) l x (i : Int) = (soritesref14_weight.f k l[i].f0 l[i].f1.f0 l[i].f1.f1 l[i].f2.f0 l[i].f2.f1).bind fun t => if t > x then ((soritesref14_weight.f k l[i].f0 l[i].f1.f0 l[i].f1.f1 l[i].f2.f0 l[i].f2.f1).bind fun t => soritesref14_Looked.l0 k l t ((i + 1 : Nat) : Int)) else soritesref14_Looked.l0 k l x ((i + 1 : Nat) : Int) := fun k => by
    rw [soritesref14_Looked.l0, if_pos (by omega), if_pos (by omega), rd81_at l i hlt, if_pos hneg, wsucc i l.length hlt (by omega)]
   by_cases hw : (wtL l[i] : Int) > x
   ·refine go (wtL l[i] : Int) (.inr ⟨i, by rw [hgi], ?_⟩) (fun r h => Ev.step hst (Ev.bind (RWeight_spec hfi) ?_))
    ·rcases hx with ⟨rfl, hno⟩ | ⟨b, rfl, hb⟩
     ·exact IsBest.first hno (by rw [hgi]; exact hneg)
     ·exact hb.new (by rw [hgi]; exact hneg) (by rw [hgi]; omega)
    ·simp only [if_pos hw]
     exact Ev.bind (RWeight_spec hfi) h
   ·refine go x ?_ (fun r h => Ev.step hst (Ev.bind (RWeight_spec hfi) ?_))
    ·rcases hx with ⟨rfl, hno⟩ | ⟨b, rfl, hb⟩
     ·have := wt_pos' l[i]
      omega
     ·exact .inr ⟨b, rfl, hb.keep (fun _ => by rw [hgi]; omega)⟩
    ·simp only [if_neg hw]
     exact h
  ·have hnf : (l.getD i z78).f0 = false := by rw [hgi]; exact Bool.eq_false_iff.2 hneg
   refine go x ?_ (fun r h => Ev.step (fun k => ?_) h)
   ·rcases hx with ⟨rfl, hno⟩ | ⟨b, rfl, hb⟩
    ·exact .inl ⟨rfl, lt_succ_cases hno hnf⟩
    ·exact .inr ⟨b, rfl, hb.keep (fun h => by rw [hnf] at h; cases h)⟩
   ·rw [soritesref14_Looked.l0, if_pos (by omega), if_pos (by omega), rd81_at l i hlt, if_neg hneg, wsucc i l.length hlt (by omega)]
theorem Rfind {l : List S78} (hl : ∀ x ∈ l, fitL x) (hn : l.length ≤ 1000000) {b : Nat} (hb : IsBest l l.length b) : ∀ (n i : Nat), b - i = n → i ≤ b → Ev (fun k => soritesref14_Looked.l1 k l (wtL (l.getD b z78) : Int) [] (i : Int)) [(b : Int)] := by
 have hpos := wt_pos' (l.getD b z78)
 have hbl := hb.1
 intro n
 induction n with
 | zero =>
  intro i hi hle
  have : i = b := by omega
  subst this
  have hfi := hl _ (List.getElem_mem hbl)
  have hgi := getD_at l i hbl
  have hneg : l[i].f0 = true := by rw [← hgi]; exact hb.2.1
  refine Ev.step (f := fun k => (soritesref14_weight.f k l[i].f0 l[i].f1.f0 l[i].f1.f1 l[i].f2.f0 l[i].f2.f1).bind fun t => soritesref14_Looked.j2 k l (wtL (l.getD i z78) : Int) [] (i : Int) (t == (wtL (l.getD i z78) : Int))) (fun k => ?_) (Ev.bind (RWeight_spec hfi) ?_)
  ·rw [soritesref14_Looked.l1, if_pos (by omega), if_pos (by omega), if_pos (by omega), rd81_at l i hbl, if_pos hneg]
  ·rw [hgi]
   exact Ev.step (f := fun _ => some [(i : Int)]) (fun k => by rw [soritesref14_Looked.j2, if_pos (beq_self_eq_true _)]) (Ev.now _)
 | succ n ihn =>
  intro i hi hle
  have hlt : i < b := by omega
  have hil : i < l.length := by omega
  have hfi := hl _ (List.getElem_mem hil)
  have hgi := getD_at l i hil
  have hskip : Ev (fun k => soritesref14_Looked.j2 k l (wtL (l.getD b z78) : Int) [] (i : Int) false) [(b : Int)] := by
   refine Ev.step (f := fun k => soritesref14_Looked.l1 k l (wtL (l.getD b z78) : Int) [] ((i + 1 : Nat) : Int)) (fun k => ?_) (ihn (i + 1) (by omega) (by omega))
   rw [soritesref14_Looked.j2, if_neg (by decide), if_neg (by omega), wsucc i l.length hil (by omega)]
  by_cases hneg : l[i].f0 = true
  ·refine Ev.step (f := fun k => (soritesref14_weight.f k l[i].f0 l[i].f1.f0 l[i].f1.f1 l[i].f2.f0 l[i].f2.f1).bind fun t => soritesref14_Looked.j2 k l (wtL (l.getD b z78) : Int) [] (i : Int) (t == (wtL (l.getD b z78) : Int))) (fun k => ?_) (Ev.bind (RWeight_spec hfi) ?_)
   ·rw [soritesref14_Looked.l1, if_pos (by omega), if_pos (by omega), if_pos (by omega), rd81_at l i hil, if_pos hneg]
   ·have hw := hb.2.2.2 i hlt (by rw [hgi]; exact hneg)
    rw [hgi] at hw
    have hne : ((wtL l[i] : Int) == (wtL (l.getD b z78) : Int)) = false := by rw [beq_eq_false_iff_ne]; omega
    simp only [hne]
    exact hskip
  ·refine Ev.step (f := fun k => soritesref14_Looked.j2 k l (wtL (l.getD b z78) : Int) [] (i : Int) false) (fun k => ?_) hskip
   rw [soritesref14_Looked.l1, if_pos (by omega), if_pos (by omega), if_pos (by omega), rd81_at l i hil, if_neg hneg]
theorem Looked_spec {l : List S78} (hl : ∀ x ∈ l, fitL x) (hn : l.length ≤ 1000000) : ∃ o : List Int, Ev (fun k => order_Looked.f k l) o ∧ Ev (fun k => soritesref14_Looked.f k l) o ∧ (0 < o.length ↔ 0 < l.length) ∧ ((∃ b : Nat, IsBest l l.length b ∧ o = [(b : Int)]) ∨ (NoNeg l l.length ∧ o = col l l.length 0)) ∧ o.length ≤ l.length := by
 obtain ⟨x, hx, hxs⟩ := Obest hl hn l.length 0 rfl (Nat.zero_le _) (-1) (.inl ⟨rfl, fun j hj => absurd hj (Nat.not_lt_zero _)⟩)
 obtain ⟨m, hm, hms⟩ := Rbest hl hn l.length 0 rfl (Nat.zero_le _) 0 (.inl ⟨rfl, fun j hj => absurd hj (Nat.not_lt_zero _)⟩)
 have hcl : ∀ n i, (col l n i).length ≤ n := by
  intro n
  induction n with
  | zero => intro i; exact Nat.le_refl _
  | succ n ih => intro i; have := ih (i + 1); rw [col]; split; (rw [List.length_cons]; omega); omega
 rcases hx with ⟨rfl, hno⟩ | ⟨b, rfl, hb⟩
 ·rcases hm with ⟨rfl, _⟩ | ⟨c, rfl, hc⟩
  ·refine ⟨col l l.length 0, hxs _ ?_, hms _ ?_, ⟨fun h => ?_, fun h => ?_⟩, .inr ⟨hno, rfl⟩, hcl _ _⟩
   ·refine Ev.step (f := fun k => order_Looked.l1 k l [] (l.length : Int) ((0 : Nat) : Int)) (fun k => by rw [order_Looked.l0, if_neg (by omega), if_neg (by decide)]; rfl) ?_
    exact Ocol hl hn l.length 0 rfl (Nat.zero_le _) [] (Nat.le_refl _)
   ·refine Ev.step (f := fun k => soritesref14_Looked.l1 k l 0 [] ((0 : Nat) : Int)) (fun k => by rw [soritesref14_Looked.l0, if_neg (by omega)]; rfl) ?_
    exact Rcol hl hn l.length 0 rfl (Nat.zero_le _) [] (Nat.le_refl _)
   ·rcases Nat.eq_zero_or_pos l.length with h0 | h0
    ·rw [h0] at h; exact absurd h (Nat.lt_irrefl _)
    ·exact h0
   ·obtain ⟨x, hx, _, hmax⟩ := ex_max grL grL_irrefl grL_trans (fun _ => True) l ⟨l[0], List.getElem_mem h, trivial⟩
    obtain ⟨j, hj, rfl⟩ := List.getElem_of_mem hx
    have hg : gstL l (l.getD j z78) = true := by
     rw [getD_at l j hj]
     unfold gstL
     rw [Bool.not_eq_true', List.any_eq_false]
     intro z hz
     rw [hmax z hz trivial]
     decide
    exact List.length_pos_iff.2 (col_pos l l.length 0 j (Nat.zero_le _) (by omega) hg)
  ·have := hno c hc.1
   rw [hc.2.1] at this
   cases this
 ·rcases hm with ⟨rfl, hno⟩ | ⟨c, rfl, hc⟩
  ·have := hno b hb.1
   rw [hb.2.1] at this
   cases this
  ·have hbc := hb.uniq hc
   subst hbc
   refine ⟨[(b : Int)], hxs _ ?_, hms _ ?_, ⟨fun _ => by have := hb.1; omega, fun _ => Nat.zero_lt_one⟩, .inl ⟨b, hb, rfl⟩, by have := hb.1; rw [List.length_singleton]; omega⟩
   ·exact Ev.step (f := fun _ => some [(b : Int)]) (fun k => by rw [order_Looked.l0, if_neg (by omega), if_pos (by omega)]) (Ev.now _)
   ·exact Ev.step (f := fun k => soritesref14_Looked.l1 k l (wtL (l.getD b z78) : Int) [] ((0 : Nat) : Int)) (fun k => by rw [soritesref14_Looked.l0, if_neg (by omega)]; rfl) (Rfind hl hn hb b 0 (by omega) (Nat.zero_le _))
theorem alive14 : Ev (fun k => soriteslaw14_alive.f k) true := by
 have f1 : fit ⟨1, []⟩ := fitB_iff _ |>.1 (by decide)
 have f2 : fit ⟨2, []⟩ := fitB_iff _ |>.1 (by decide)
 have f0 : fit ⟨0, []⟩ := fitB_iff _ |>.1 (by decide)
 obtain ⟨o, h1, _, _, h2, _⟩ := Looked_spec (l := [⟨false, ⟨1, []⟩, ⟨0, []⟩⟩, ⟨true, ⟨2, []⟩, ⟨0, []⟩⟩]) (by intro x hx; rcases List.mem_cons.1 hx with rfl | hx; exact ⟨f1, f0⟩; rw [List.mem_singleton] at hx; subst hx; exact ⟨f2, f0⟩) (by decide)
 obtain ⟨o2, g1, _, g2, _, _⟩ := Looked_spec (l := []) (by intro x hx; cases hx) (by decide)
 have ho : o = [1] := by
  rcases h2 with ⟨b, hb, rfl⟩ | ⟨hno, _⟩
  ·have hb1 : b < 2 := hb.1
   have hb2 := hb.2.1
   have : b = 1 := by
    rcases (show b = 0 ∨ b = 1 by omega) with rfl | rfl
    ·cases hb2
    ·rfl
   subst this
   rfl
  ·have := hno 1 (by decide)
   cases this
 have ho2 : o2 = [] := by
  cases o2 with
  | nil => rfl
  | cons y r => exact absurd (g2.1 (by simp)) (Nat.lt_irrefl _)
 subst ho ho2
 unfold soriteslaw14_alive.f
 refine Ev.bind h1 ?_
 exact Ev.congr (f := fun n => (order_Looked.f n []).bind fun t385 => some ((t385.length : Int) == 0)) (fun n => by rw [if_pos (by decide), if_pos (by decide), if_pos (by decide)]) (Ev.bind g1 (Ev.now _))
end
section
def Own30 (w0 W : World) (v : Value) (xs : List S30) : Prop := Kd.N k30 30 W w0.heap.size (fun k => w0.heap.size ≤ k) v xs ∧ Below w0.heap.size w0 W
theorem Own30.nil (w0 : World) : Own30 w0 w0 (.slice none 0 0) [] := ⟨Kd.N_nil _ _ _ _ _, Below.refl _ _⟩
theorem Own30.below {w0 W W' : World} {v : Value} {xs : List S30} (h : Own30 w0 W v xs) (hb : Below W.heap.size W W') : Own30 w0 W' v xs := ⟨Kd.N_below h.1 hb, h.2.trans (hb.mono h.2.size)⟩
theorem Own30.reads {w0 W : World} {v : Value} {xs : List S30} (h : Own30 w0 W v xs) : ∃ A c, v = .slice A xs.length c ∧ xs.length ≤ c ∧ k30.C W A xs.length xs := by
 obtain ⟨A, c, rfl, hc, hF⟩ := Kd.N_V (base' := 0) h.1
 exact ⟨A, c, rfl, hc, Kd.F_now hF⟩
theorem Own30.elem {w0 wr W : World} {v : Value} {xs : List S30} (h : Own30 w0 wr v xs) {A : Option Addr} {n c : Nat} {x : S30} (hR : Kd.R k30 30 W wr.heap.size (fun _ => True) (.slice A n c) x.f1) :
  x.f1.length ≤ c ∧ n = x.f1.length ∧ Kd.FK k30 W (fun k => w0.heap.size ≤ k ∧ some k ≠ v.ownBlock) x [.int .i64 x.f0, .slice A x.f1.length c] := by
 have hb := Kd.R_mono (ok' := fun k => w0.heap.size ≤ k ∧ some k ≠ v.ownBlock) (Kd.R_bound hR) (fun k hk => ⟨Nat.le_trans h.2.size hk.2.1, fun he => by have := Kd.N_lt h.1 k he.symm; have := hk.2.1; omega⟩)
 obtain ⟨h1, h2, _⟩ := Kd.R_reads' hR
 subst h1
 exact ⟨h2, rfl, k30_mkF _ _ x h2 (Kd.V_F (Kd.R_V (base' := 0) hb))⟩
theorem wrap_nat (k : Nat) (h : k < 1000000) : wrap64 ((k : Int) + 1) = ((k + 1 : Nat) : Int) := by unfold wrap64; omega
theorem term_at {W : World} {A : Option Addr} {l : List S24} (hC : k24.C W A l.length l) (k : Nat) (t : S24) (hk : l[k]? = some t) : ∃ ad B e, A = some ad ∧ W.cell? (ad.add (k * 2)) = some (.int .i64 t.f0) ∧ W.cell? ⟨(ad.add (k * 2)).block, (ad.add (k * 2)).off + 1, none⟩ = some (.slice B t.f1.length e) ∧ t.f1.length ≤ e ∧ k24.C W B t.f1.length t.f1 := by
 have hl := (List.getElem?_eq_some_iff.1 hk).1
 obtain ⟨ad, B, e, h0, h1, h2, h3, h4⟩ := at_T24 hC (k : Int) (by omega) (by omega)
 have hrd : rd_T24 l (k : Int) = t := by unfold rd_T24; rw [Int.toNat_natCast, List.getD_eq_getElem?_getD, hk]; rfl
 rw [hrd] at h1 h2 h3 h4
 rw [Int.toNat_natCast] at h1 h2
 exact ⟨ad, B, e, h0, h1, h2, h3, h4⟩
end
section
attribute [local go_sem] max2_int min2_int max_two min_two yal_ yak_ max_four min_four
def soritesref14_Orient.f (k : Nat) (a0_0 : Bool) (a0_1 : Int) (l0_2 : List (S24)) (a0_3 : Int) (l0_4 : List (S24)) : Option ((List (List (S24)))) := (soritesref10_Compare.f k a0_1 l0_2 a0_3 l0_4).bind fun t510 => (if t510 > 0 then (if ([] : List (List (S24))).length < 5864062014805 then ((some (([] : List (List (S24))) ++ [(([(⟨a0_1, l0_2⟩ : S24), (⟨a0_3, l0_4⟩ : S24)] : List (S24)))] : List (List (S24)))).bind fun y514 => (if t510 = (-1) then (if y514.length < 5864062014805 then (some (y514 ++ [(([(⟨a0_3, l0_4⟩ : S24), (⟨a0_1, l0_2⟩ : S24)] : List (S24)))])) else (none)) else (if t510 = 2 then (if y514.length < 5864062014805 then (some (y514 ++ [(([(⟨a0_3, l0_4⟩ : S24), (⟨a0_1, l0_2⟩ : S24)] : List (S24)))])) else (none)) else (some y514)))) else (none)) else (if t510 = (-1) then (if ([] : List (List (S24))).length < 5864062014805 then (some (([] : List (List (S24))) ++ [(([(⟨a0_3, l0_4⟩ : S24), (⟨a0_1, l0_2⟩ : S24)] : List (S24)))])) else (none)) else (if t510 = 2 then (if ([] : List (List (S24))).length < 5864062014805 then (some (([] : List (List (S24))) ++ [(([(⟨a0_3, l0_4⟩ : S24), (⟨a0_1, l0_2⟩ : S24)] : List (S24)))])) else (none)) else (some ([] : List (List (S24)))))))
set_option maxHeartbeats 8000000 in
set_option maxRecDepth 100000 in
theorem soritesref14_Orient.calls (k : Nat) (a0_0 : Bool) (a0_1 : Int) (P0_2_ : Nat → Prop) (A0_2 : Option Addr) (c0_2 : Nat) (l0_2 : List (S24)) (a0_3 : Int) (P0_4_ : Nat → Prop) (A0_4 : Option Addr) (c0_4 : Nat) (l0_4 : List (S24)) (r : List (List (S24))) (w : World) (hs0_2 : Kd.V k24 24 w w.heap.size (fun k_ => P0_2_ k_) (.slice A0_2 l0_2.length c0_2) l0_2) (hs0_4 : Kd.V k24 24 w w.heap.size (fun k_ => P0_4_ k_) (.slice A0_4 l0_4.length c0_4) l0_4) (h : soritesref14_Orient.f k a0_0 a0_1 l0_2 a0_3 l0_4 = some r) :
  Calls Try.prog 69 #[.agg #[.bool a0_0, .int .i64 a0_1, .slice A0_2 l0_2.length c0_2, .int .i64 a0_3, .slice A0_4 l0_4.length c0_4]] w fun e w' => ∃ v0_ : Value, e = .returned (v0_) ∧ Kd.N (Kd.slice 24 k24) 22 w' w.heap.size (fun k_ => ((P0_2_ k_ ∨ P0_4_ k_) ∨ w.heap.size ≤ k_)) v0_ r ∧ Below w.heap.size w w' := by
 have hu81 := Try.underlying81
 have hu24 := Try.underlying24
 have HO0_2 := Az_.mk (show Kd.V k24 24 w w.heap.size (fun k_ => ((P0_2_ k_ ∨ P0_4_ k_) ∨ w.heap.size ≤ k_)) (.slice A0_2 l0_2.length c0_2) l0_2 from Kd.V_mono hs0_2 (fun k_ hk => .inl (.inl hk)))
 have HO0_4 := Az_.mk (show Kd.V k24 24 w w.heap.size (fun k_ => ((P0_2_ k_ ∨ P0_4_ k_) ∨ w.heap.size ≤ k_)) (.slice A0_4 l0_4.length c0_4) l0_4 from Kd.V_mono hs0_4 (fun k_ hk => .inl (.inr hk)))
 have HB := Az_.mk (Below.refl w.heap.size w)
 have H : ((soritesref10_Compare.f k a0_1 l0_2 a0_3 l0_4).bind fun t510 => (if t510 > 0 then (if ([] : List (List (S24))).length < 5864062014805 then ((some (([] : List (List (S24))) ++ [(([(⟨a0_1, l0_2⟩ : S24), (⟨a0_3, l0_4⟩ : S24)] : List (S24)))] : List (List (S24)))).bind fun y514 => (if t510 = (-1) then (if y514.length < 5864062014805 then (some (y514 ++ [(([(⟨a0_3, l0_4⟩ : S24), (⟨a0_1, l0_2⟩ : S24)] : List (S24)))])) else (none)) else (if t510 = 2 then (if y514.length < 5864062014805 then (some (y514 ++ [(([(⟨a0_3, l0_4⟩ : S24), (⟨a0_1, l0_2⟩ : S24)] : List (S24)))])) else (none)) else (some y514)))) else (none)) else (if t510 = (-1) then (if ([] : List (List (S24))).length < 5864062014805 then (some (([] : List (List (S24))) ++ [(([(⟨a0_3, l0_4⟩ : S24), (⟨a0_1, l0_2⟩ : S24)] : List (S24)))])) else (none)) else (if t510 = 2 then (if ([] : List (List (S24))).length < 5864062014805 then (some (([] : List (List (S24))) ++ [(([(⟨a0_3, l0_4⟩ : S24), (⟨a0_1, l0_2⟩ : S24)] : List (S24)))])) else (none)) else (some ([] : List (List (S24)))))))) = some r := h
 clear h
 replace H := Option.bind_eq_some_iff.mp H
 obtain ⟨t510, A20, H⟩ := H
 replace H : (if t510 > 0 then (if ([] : List (List (S24))).length < 5864062014805 then ((some (([] : List (List (S24))) ++ [(([(⟨a0_1, l0_2⟩ : S24), (⟨a0_3, l0_4⟩ : S24)] : List (S24)))] : List (List (S24)))).bind fun y514 => (if t510 = (-1) then (if y514.length < 5864062014805 then (some (y514 ++ [(([(⟨a0_3, l0_4⟩ : S24), (⟨a0_1, l0_2⟩ : S24)] : List (S24)))])) else (none)) else (if t510 = 2 then (if y514.length < 5864062014805 then (some (y514 ++ [(([(⟨a0_3, l0_4⟩ : S24), (⟨a0_1, l0_2⟩ : S24)] : List (S24)))])) else (none)) else (some y514)))) else (none)) else (if t510 = (-1) then (if ([] : List (List (S24))).length < 5864062014805 then (some (([] : List (List (S24))) ++ [(([(⟨a0_3, l0_4⟩ : S24), (⟨a0_1, l0_2⟩ : S24)] : List (S24)))])) else (none)) else (if t510 = 2 then (if ([] : List (List (S24))).length < 5864062014805 then (some (([] : List (List (S24))) ++ [(([(⟨a0_3, l0_4⟩ : S24), (⟨a0_1, l0_2⟩ : S24)] : List (S24)))])) else (none)) else (some ([] : List (List (S24))))))) = some r := H
 have A2 := Az_.mk A20
 clear A20
 by_cases c3 : t510 > 0
 ·rw [if_pos c3] at H
  have c3b0 : decide (0 < t510) = true := decide_eq_true c3
  clear c3
  obtain ⟨y511, hy511⟩ : ∃ y_ : List (S24), y_ = (([(⟨a0_1, l0_2⟩ : S24), (⟨a0_3, l0_4⟩ : S24)] : List (S24))) := ⟨_, rfl⟩
  replace H : (if ([] : List (List (S24))).length < 5864062014805 then ((some (([] : List (List (S24))) ++ [y511] : List (List (S24)))).bind fun y514 => (if t510 = (-1) then (if y514.length < 5864062014805 then (some (y514 ++ [(([(⟨a0_3, l0_4⟩ : S24), (⟨a0_1, l0_2⟩ : S24)] : List (S24)))])) else (none)) else (if t510 = 2 then (if y514.length < 5864062014805 then (some (y514 ++ [(([(⟨a0_3, l0_4⟩ : S24), (⟨a0_1, l0_2⟩ : S24)] : List (S24)))])) else (none)) else (some y514)))) else (none)) = some r := by first | (rw [hy511]; with_reducible exact H) | (have H2_ := (Option.bind_some _ _).symm.trans H; rw [hy511]; with_reducible exact H2_) | (have H2_ := (Option.bind_some _ _).symm.trans H; with_reducible exact H2_) | with_reducible exact H | (rw [hy511]; exact H) | exact H
  have Ny511 := Az_.mk hy511
  clear hy511
  by_cases c4 : ([] : List (List (S24))).length < 5864062014805
  ·rw [if_pos c4] at H
   have LMc4 := Az_.mk c4
   clear c4
   obtain ⟨y514, hy514⟩ : ∃ y_ : List (List (S24)), y_ = (([] : List (List (S24))) ++ [y511]) := ⟨_, rfl⟩
   replace H : (if t510 = (-1) then (if y514.length < 5864062014805 then (some (y514 ++ [(([(⟨a0_3, l0_4⟩ : S24), (⟨a0_1, l0_2⟩ : S24)] : List (S24)))])) else (none)) else (if t510 = 2 then (if y514.length < 5864062014805 then (some (y514 ++ [(([(⟨a0_3, l0_4⟩ : S24), (⟨a0_1, l0_2⟩ : S24)] : List (S24)))])) else (none)) else (some y514))) = some r := by first | (rw [hy514]; with_reducible exact H) | (have H2_ := (Option.bind_some _ _).symm.trans H; rw [hy514]; with_reducible exact H2_) | (have H2_ := (Option.bind_some _ _).symm.trans H; with_reducible exact H2_) | with_reducible exact H | (rw [hy514]; exact H) | exact H
   have Ny514 := Az_.mk hy514
   clear hy514
   by_cases c5 : t510 = (-1)
   ·rw [if_pos c5] at H
    have c5b0 : (t510 == (-1)) = true := beq_iff_eq.mpr c5
    have c5b1 : (t510 != (-1)) = false := bne_eq_false_iff_eq.mpr c5
    clear c5
    obtain ⟨y517, hy517⟩ : ∃ y_ : List (S24), y_ = (([(⟨a0_3, l0_4⟩ : S24), (⟨a0_1, l0_2⟩ : S24)] : List (S24))) := ⟨_, rfl⟩
    replace H : (if y514.length < 5864062014805 then (some (y514 ++ [y517])) else (none)) = some r := by first | (rw [hy517]; with_reducible exact H) | (have H2_ := (Option.bind_some _ _).symm.trans H; rw [hy517]; with_reducible exact H2_) | (have H2_ := (Option.bind_some _ _).symm.trans H; with_reducible exact H2_) | with_reducible exact H | (rw [hy517]; exact H) | exact H
    have Ny517 := Az_.mk hy517
    clear hy517
    by_cases c6 : y514.length < 5864062014805
    ·rw [if_pos c6] at H
     have LMc6 := Az_.mk c6
     clear c6
     obtain ⟨y520, hy520⟩ : ∃ y_ : List (List (S24)), y_ = (y514 ++ [y517]) := ⟨_, rfl⟩
     replace H : (some y520) = some r := by first | (rw [hy520]; with_reducible exact H) | (have H2_ := (Option.bind_some _ _).symm.trans H; rw [hy520]; with_reducible exact H2_) | (have H2_ := (Option.bind_some _ _).symm.trans H; with_reducible exact H2_) | with_reducible exact H | (rw [hy520]; exact H) | exact H
     have Ny520 := Az_.mk hy520
     clear hy520
     obtain rfl := Option.some.inj H
     go_enter Try.func69, Try.ntmps69
     go_wp2_with (first | ((with_reducible refine yag_ (N := 1) rfl ?_); refine yah_ ?hg (N := 1) ?hd (cs := #[.bool a0_0, .int .i64 a0_1, .slice A0_2 l0_2.length c0_2, .int .i64 a0_3, .slice A0_4 l0_4.length c0_4]) (t := 81) ?hr ?_; (case hd => rfl); (case hg => rfl); (case hr => exact rq_); intro gb509 hg w7 hbox hb; replace HO0_2 := Az_.mk (Kd.V_below (Kd.V_elderB (vq_ HO0_2) gb509 (Nat.le_of_eq hg.symm)) hb); replace HO0_4 := Az_.mk (Kd.V_below (Kd.V_elderB (vq_ HO0_4) gb509 (Nat.le_of_eq hg.symm)) hb); have BK509 := Az_.mk (hbox); have GW509 := Az_.mk ((by rw [hg]; exact (bZ_ (bq_ HB)) : w.heap.size ≤ gb509)); have GE509 := Az_.mk ((by rw [hg]; exact (bZ_ (bq_ HB)) : w.heap.size ≤ gb509)); replace HB := Az_.mk (bT_ (bq_ HB) hb); clear hb hbox hg; obtain ⟨hcz8_0, hcz8_1, hcz8_2, hcz8_3, hcz8_4, hfz8_0, hfz8_1, hfz8_2, hfz8_3, hfz8_4⟩ := cz5_ BK509) | ((with_reducible refine yaf_ (f := 44) rfl ?_); refine goesL_ (some 9) rfl rfl Try.func44 (by kernel_rfl) rfl #[.agg #[.int .i64 a0_1, .slice A0_2 l0_2.length c0_2], .agg #[.int .i64 a0_3, .slice A0_4 l0_4.length c0_4]] rfl mq_ ?_; (with_reducible refine (soritesref10_Compare.calls k a0_1 _ _ l0_2 a0_3 _ _ l0_4 t510 _ ?side1 ?side2 ?side3 ?side4 A2.out).mono ?_); (case side1 => repeat (first | exact (Kd.V_reads' HO0_2.out).2.2 | (with_reducible refine Kd.C_alloc ?_ _) | (with_reducible refine Kd.C_drewN ?_ _) | (with_reducible refine Kd.C_drew ?_))); (case side2 => exact (Kd.V_reads' HO0_2.out).2.1); (case side3 => repeat (first | exact (Kd.V_reads' HO0_4.out).2.2 | (with_reducible refine Kd.C_alloc ?_ _) | (with_reducible refine Kd.C_drewN ?_ _) | (with_reducible refine Kd.C_drew ?_))); (case side4 => exact (Kd.V_reads' HO0_4.out).2.1); rintro e w9 ⟨rfl, hb⟩; refine ⟨_, rfl, ?_⟩; replace HO0_2 := Az_.mk (Kd.V_below (vq_ HO0_2) hb); replace HO0_4 := Az_.mk (Kd.V_below (vq_ HO0_4) hb); replace BK509 := kb_ BK509 hb; replace HB := Az_.mk (bT_ (bq1_ HB GE509) hb); (try clear hb); (try clear hb2); (try clear hk); (try clear hi); obtain ⟨hcz10_0, hcz10_1, hcz10_2, hcz10_3, hcz10_4, hfz10_0, hfz10_1, hfz10_2, hfz10_3, hfz10_4⟩ := cz5_ BK509) | ((with_reducible refine yag_ (N := 17) rfl ?_); refine Kd.N_lit k24 _ 24 ?hg (N' := 17) ?hd (xs := ([(⟨a0_1, l0_2⟩ : S24), (⟨a0_3, l0_4⟩ : S24)] : List (S24))) (inner := [.int .i64 a0_1, .slice A0_2 l0_2.length c0_2, .int .i64 a0_3, .slice A0_4 l0_4.length c0_4]) (ok := (fun k_ => ((P0_2_ k_ ∨ P0_4_ k_) ∨ w.heap.size ≤ k_) ∧ k_ ≠ gb509)) (okp := (fun k_ => ((P0_2_ k_ ∨ P0_4_ k_) ∨ w.heap.size ≤ k_) ∧ k_ ≠ gb509)) ?hr ?hp (fun _ hk => hk) ((show ∀ k_, w9.heap.size ≤ k_ → (fun k_ => ((P0_2_ k_ ∨ P0_4_ k_) ∨ w.heap.size ≤ k_) ∧ k_ ≠ gb509) k_ from fun k_ hk => ⟨(.inr (Nat.le_trans (bZ_ (bq1_ HB GE509)) hk)), Kd.freshB (g := gb509) (o := .cells #[.bool a0_0, .int .i64 a0_1, .slice A0_2 l0_2.length c0_2, .int .i64 a0_3, .slice A0_4 l0_4.length c0_4] 81 (0, 0)) (kq_ BK509) k_ hk⟩) _ (Nat.le_refl _)) (Below.refl _ _) (Nat.le_refl _) (by simp) ?_; (case hd => rfl); (case hg => rfl); (case hr => exact rq_); (case hp => exact (Reps.c2 (show Kd.FK k24 _ _ (⟨a0_1, l0_2⟩ : S24) [.int .i64 a0_1, .slice A0_2 l0_2.length c0_2] from (k24_mkF _ _ (⟨a0_1, l0_2⟩ : S24) (Kd.V_reads' (Kd.V_mono (ok' := (fun k_ => ((P0_2_ k_ ∨ P0_4_ k_) ∨ w.heap.size ≤ k_) ∧ k_ ≠ gb509)) (HO0_2.out) (fun k_ hk => ⟨hk.1, hk.2⟩))).2.1 (Kd.V_F (Kd.V_mono (ok' := (fun k_ => ((P0_2_ k_ ∨ P0_4_ k_) ∨ w.heap.size ≤ k_) ∧ k_ ≠ gb509)) (HO0_2.out) (fun k_ hk => ⟨hk.1, hk.2⟩))))) (Reps.c2 (show Kd.FK k24 _ _ (⟨a0_3, l0_4⟩ : S24) [.int .i64 a0_3, .slice A0_4 l0_4.length c0_4] from (k24_mkF _ _ (⟨a0_3, l0_4⟩ : S24) (Kd.V_reads' (Kd.V_mono (ok' := (fun k_ => ((P0_2_ k_ ∨ P0_4_ k_) ∨ w.heap.size ≤ k_) ∧ k_ ≠ gb509)) (HO0_4.out) (fun k_ hk => ⟨hk.1, hk.2⟩))).2.1 (Kd.V_F (Kd.V_mono (ok' := (fun k_ => ((P0_2_ k_ ∨ P0_4_ k_) ∨ w.heap.size ≤ k_) ∧ k_ ≠ gb509)) (HO0_4.out) (fun k_ hk => ⟨hk.1, hk.2⟩))))) (Reps.none _ _)))); intro v512 w11 ho12 hb hg_ hnew_; clear hg_ hnew_; (first | rw [← Ny511.out] at ho12 | (simp only [Int.reduceToNat] at ho12; rw [← Ny511.out] at ho12)); replace HO0_2 := Az_.mk (Kd.V_elder' (vq_ HO0_2) (Kd.N_base ho12) hb); replace HO0_4 := Az_.mk (Kd.V_elder' (vq_ HO0_4) (Kd.N_base ho12) hb); have HO513 := Az_.mk (Kd.N_lower ho12 (bZ_ (bq1_ HB GE509))); replace BK509 := kb_ BK509 hb; replace HB := Az_.mk (bT_ (bq1_ HB GE509) hb); clear hb ho12; obtain ⟨Ao14, co14, eo14⟩ := Kd.N_slice HO513.out; subst eo14) | ((with_reducible refine gate_builtin (b := .append) (xs := #[.tmp 12, .tmp 18]) rfl ?_); at_builtin; refine Kd.N_append (Kd.slice 24 k24) (w0 := w) w.heap.size rfl (.tmp 12) (.tmp 18) 87 22 (.slice none 0 0) 24 rfl Try.underlying87 info22 rfl (by decide) (by omega) (.slice none 0 0) ([] : List (List (S24))) y511 [.slice Ao14 y511.length co14] (fun k_ => ((P0_2_ k_ ∨ P0_4_ k_) ∨ w.heap.size ≤ k_) ∧ k_ ≠ gb509) (fun k_ => ((fun k_ => ((P0_2_ k_ ∨ P0_4_ k_) ∨ w.heap.size ≤ k_) ∧ k_ ≠ gb509)) k_ ∧ some k_ ≠ (.slice none 0 0 : Value).ownBlock) rfl rfl ?aP (fun _ hk => hk) ?aF ?aO ?aB ?aS ?aL ?_; (case aP => exact (Kd.FK_slice_mk (Kd.N_reads' (Kd.N_mono (ok' := (fun k_ => ((fun k_ => ((P0_2_ k_ ∨ P0_4_ k_) ∨ w.heap.size ≤ k_) ∧ k_ ≠ gb509)) k_ ∧ some k_ ≠ (.slice none 0 0 : Value).ownBlock)) (HO513.out) (fun k_ hk => ⟨⟨hk.1, hk.2⟩, (by simp [Value.ownBlock])⟩))).2.1 (Kd.N_F (Kd.N_mono (ok' := (fun k_ => ((fun k_ => ((P0_2_ k_ ∨ P0_4_ k_) ∨ w.heap.size ≤ k_) ∧ k_ ≠ gb509)) k_ ∧ some k_ ≠ (.slice none 0 0 : Value).ownBlock)) (HO513.out) (fun k_ hk => ⟨⟨hk.1, hk.2⟩, (by simp [Value.ownBlock])⟩))))); (case aB => exact (bq1_ HB GE509)); (case aF => exact (fun k_ hk => ⟨(.inr (Nat.le_trans (bZ_ (bq1_ HB GE509)) hk)), Kd.freshB (g := gb509) (o := .cells #[.bool a0_0, .int .i64 a0_1, .slice A0_2 l0_2.length c0_2, .int .i64 a0_3, .slice A0_4 l0_4.length c0_4] 81 (0, 0)) (kq_ BK509) k_ hk⟩)); (case aO => exact ((Kd.N_nil _ _ _ _ (fun k_ => ((P0_2_ k_ ∨ P0_4_ k_) ∨ w.heap.size ≤ k_) ∧ k_ ≠ gb509)))); (case aS => exact (bZ_ (bq1_ HB GE509))); (case aL => have := LMc4.out; omega); intro v515 w13 ho hb hg hat; rw [← Ny514.out] at ho; have n0_ := Az_.mk (Kd.V_afterv (Kd.V_apart_nil (vq_ HO0_2)) hg hat); have n1_ := Az_.mk (Kd.V_afterv (Kd.V_apart_nil (vq_ HO0_4)) hg hat); have n2_ := Az_.mk (blk_grown (g := gb509) (o := .cells #[.bool a0_0, .int .i64 a0_1, .slice A0_2 l0_2.length c0_2, .int .i64 a0_3, .slice A0_4 l0_4.length c0_4] 81 (0, 0)) (kq_ BK509) hg (by simp [Value.ownBlock])); have n3_ := Az_.mk (hb); have n4_ := Az_.mk (ho); clear HO0_2; clear HO0_4; clear BK509; clear HB; clear HO513; have HO0_2 := n0_; have HO0_4 := n1_; have BK509 := n2_; have HB := n3_; have HO516 := n4_; clear n0_ n1_ n2_ n3_ n4_; clear ho hb hg hat; obtain ⟨hcz15_0, hcz15_1, hcz15_2, hcz15_3, hcz15_4, hfz15_0, hfz15_1, hfz15_2, hfz15_3, hfz15_4⟩ := cz5_ BK509) | ((with_reducible refine yag_ (N := 31) rfl ?_); refine Kd.N_lit k24 _ 24 ?hg (N' := 31) ?hd (xs := ([(⟨a0_3, l0_4⟩ : S24), (⟨a0_1, l0_2⟩ : S24)] : List (S24))) (inner := [.int .i64 a0_3, .slice A0_4 l0_4.length c0_4, .int .i64 a0_1, .slice A0_2 l0_2.length c0_2]) (ok := (fun k_ => ((P0_2_ k_ ∨ P0_4_ k_) ∨ w.heap.size ≤ k_) ∧ some k_ ≠ (v515 : Value).ownBlock ∧ k_ ≠ gb509)) (okp := (fun k_ => ((P0_2_ k_ ∨ P0_4_ k_) ∨ w.heap.size ≤ k_) ∧ some k_ ≠ (v515 : Value).ownBlock ∧ k_ ≠ gb509)) ?hr ?hp (fun _ hk => hk) ((show ∀ k_, w13.heap.size ≤ k_ → (fun k_ => ((P0_2_ k_ ∨ P0_4_ k_) ∨ w.heap.size ≤ k_) ∧ some k_ ≠ (v515 : Value).ownBlock ∧ k_ ≠ gb509) k_ from fun k_ hk => ⟨(.inr (Nat.le_trans (bZ_ (bq1_ HB GE509)) hk)), Kd.fresh' (Kd.N_lt (nq_ HO516)) k_ hk, Kd.freshB (g := gb509) (o := .cells #[.bool a0_0, .int .i64 a0_1, .slice A0_2 l0_2.length c0_2, .int .i64 a0_3, .slice A0_4 l0_4.length c0_4] 81 (0, 0)) (kq_ BK509) k_ hk⟩) _ (Nat.le_refl _)) (Below.refl _ _) (Nat.le_refl _) (by simp) ?_; (case hd => rfl); (case hg => rfl); (case hr => exact rq_); (case hp => exact (Reps.c2 (show Kd.FK k24 _ _ (⟨a0_3, l0_4⟩ : S24) [.int .i64 a0_3, .slice A0_4 l0_4.length c0_4] from (k24_mkF _ _ (⟨a0_3, l0_4⟩ : S24) (Kd.V_reads' (Kd.V_mono (ok' := (fun k_ => ((P0_2_ k_ ∨ P0_4_ k_) ∨ w.heap.size ≤ k_) ∧ some k_ ≠ (v515 : Value).ownBlock ∧ k_ ≠ gb509)) (HO0_4.out) (fun k_ hk => ⟨hk.1.1.1, ⟨hk.2, hk.1.1.2⟩⟩))).2.1 (Kd.V_F (Kd.V_mono (ok' := (fun k_ => ((P0_2_ k_ ∨ P0_4_ k_) ∨ w.heap.size ≤ k_) ∧ some k_ ≠ (v515 : Value).ownBlock ∧ k_ ≠ gb509)) (HO0_4.out) (fun k_ hk => ⟨hk.1.1.1, ⟨hk.2, hk.1.1.2⟩⟩))))) (Reps.c2 (show Kd.FK k24 _ _ (⟨a0_1, l0_2⟩ : S24) [.int .i64 a0_1, .slice A0_2 l0_2.length c0_2] from (k24_mkF _ _ (⟨a0_1, l0_2⟩ : S24) (Kd.V_reads' (Kd.V_mono (ok' := (fun k_ => ((P0_2_ k_ ∨ P0_4_ k_) ∨ w.heap.size ≤ k_) ∧ some k_ ≠ (v515 : Value).ownBlock ∧ k_ ≠ gb509)) (HO0_2.out) (fun k_ hk => ⟨hk.1.1.1, ⟨hk.2, hk.1.1.2⟩⟩))).2.1 (Kd.V_F (Kd.V_mono (ok' := (fun k_ => ((P0_2_ k_ ∨ P0_4_ k_) ∨ w.heap.size ≤ k_) ∧ some k_ ≠ (v515 : Value).ownBlock ∧ k_ ≠ gb509)) (HO0_2.out) (fun k_ hk => ⟨hk.1.1.1, ⟨hk.2, hk.1.1.2⟩⟩))))) (Reps.none _ _)))); intro v518 w16 ho17 hb hg_ hnew_; clear hg_ hnew_; (first | rw [← Ny517.out] at ho17 | (simp only [Int.reduceToNat] at ho17; rw [← Ny517.out] at ho17)); replace HO0_2 := Az_.mk (Kd.V_elder' (vq_ HO0_2) (Kd.N_base ho17) hb); replace HO0_4 := Az_.mk (Kd.V_elder' (vq_ HO0_4) (Kd.N_base ho17) hb); replace HO516 := Az_.mk (Kd.N_elder' (nq_ HO516) (Kd.N_base ho17) hb); have HO519 := Az_.mk (Kd.N_lower ho17 (bZ_ (bq1_ HB GE509))); replace BK509 := kb_ BK509 hb; replace HB := Az_.mk (bT_ (bq1_ HB GE509) hb); clear hb ho17; obtain ⟨Ao19, co19, eo19⟩ := Kd.N_slice HO519.out; subst eo19) | ((with_reducible refine gate_builtin (b := .append) (xs := #[.tmp 26, .tmp 32]) rfl ?_); at_builtin; refine Kd.N_append (Kd.slice 24 k24) (w0 := w) w.heap.size rfl (.tmp 26) (.tmp 32) 87 22 (.slice none 0 0) 24 rfl Try.underlying87 info22 rfl (by decide) (by omega) v515 y514 y517 [.slice Ao19 y517.length co19] (fun k_ => ((P0_2_ k_ ∨ P0_4_ k_) ∨ w.heap.size ≤ k_) ∧ k_ ≠ gb509) (fun k_ => ((fun k_ => ((P0_2_ k_ ∨ P0_4_ k_) ∨ w.heap.size ≤ k_) ∧ k_ ≠ gb509)) k_ ∧ some k_ ≠ (v515 : Value).ownBlock) rfl rfl ?aP (fun _ hk => hk) ?aF ?aO ?aB ?aS ?aL ?_; (case aP => exact (Kd.FK_slice_mk (Kd.N_reads' (Kd.N_mono (ok' := (fun k_ => ((fun k_ => ((P0_2_ k_ ∨ P0_4_ k_) ∨ w.heap.size ≤ k_) ∧ k_ ≠ gb509)) k_ ∧ some k_ ≠ (v515 : Value).ownBlock)) (HO519.out) (fun k_ hk => ⟨⟨hk.1, hk.2.2⟩, hk.2.1⟩))).2.1 (Kd.N_F (Kd.N_mono (ok' := (fun k_ => ((fun k_ => ((P0_2_ k_ ∨ P0_4_ k_) ∨ w.heap.size ≤ k_) ∧ k_ ≠ gb509)) k_ ∧ some k_ ≠ (v515 : Value).ownBlock)) (HO519.out) (fun k_ hk => ⟨⟨hk.1, hk.2.2⟩, hk.2.1⟩))))); (case aB => exact (bq1_ HB GE509)); (case aF => exact (fun k_ hk => ⟨(.inr (Nat.le_trans (bZ_ (bq1_ HB GE509)) hk)), Kd.freshB (g := gb509) (o := .cells #[.bool a0_0, .int .i64 a0_1, .slice A0_2 l0_2.length c0_2, .int .i64 a0_3, .slice A0_4 l0_4.length c0_4] 81 (0, 0)) (kq_ BK509) k_ hk⟩)); (case aO => exact (by (with_reducible repeat (first | apply Kd.N_alloc | apply Kd.N_drewN | apply Kd.N_drew)); exact Kd.N_mono HO516.out (fun _ hk => ⟨hk.1.1, hk.1.2⟩))); (case aS => exact (bZ_ (bq1_ HB GE509))); (case aL => have := LMc6.out; omega); intro v521 w18 ho hb hg hat; rw [← Ny520.out] at ho; have n0_ := Az_.mk (Kd.V_afterv (ok := (fun k_ => ((P0_2_ k_ ∨ P0_4_ k_) ∨ w.heap.size ≤ k_) ∧ some k_ ≠ (.slice Ao19 y517.length co19 : Value).ownBlock ∧ k_ ≠ gb509)) (by (with_reducible repeat (first | apply Kd.V_alloc | apply Kd.V_drewN | apply Kd.V_drew)); exact Kd.V_mono HO0_2.out (fun _ hk => ⟨⟨hk.1.1.1.1, ⟨hk.2, hk.1.1.1.2⟩⟩, hk.1.2⟩)) hg hat); have n1_ := Az_.mk (Kd.V_afterv (ok := (fun k_ => ((P0_2_ k_ ∨ P0_4_ k_) ∨ w.heap.size ≤ k_) ∧ some k_ ≠ (.slice Ao19 y517.length co19 : Value).ownBlock ∧ k_ ≠ gb509)) (by (with_reducible repeat (first | apply Kd.V_alloc | apply Kd.V_drewN | apply Kd.V_drew)); exact Kd.V_mono HO0_4.out (fun _ hk => ⟨⟨hk.1.1.1.1, ⟨hk.2, hk.1.1.1.2⟩⟩, hk.1.2⟩)) hg hat); have n2_ := Az_.mk (blk_grown (g := gb509) (o := .cells #[.bool a0_0, .int .i64 a0_1, .slice A0_2 l0_2.length c0_2, .int .i64 a0_3, .slice A0_4 l0_4.length c0_4] 81 (0, 0)) (kq_ BK509) hg (Kd.N_ne HO516.out BK509.out (by decide))); have n3_ := Az_.mk (hb); have n4_ := Az_.mk (ho); clear HO0_2; clear HO0_4; clear BK509; clear HB; clear HO516; clear HO519; have HO0_2 := n0_; have HO0_4 := n1_; have BK509 := n2_; have HB := n3_; have HO522 := n4_; clear n0_ n1_ n2_ n3_ n4_; clear ho hb hg hat))
     go_ret
     exact ⟨_, by first | rfl | (simp [yad_, yac_] <;> rfl) | (simp [*, yad_, yac_] <;> rfl), by (with_reducible repeat (first | apply Kd.N_alloc | apply Kd.N_drewN | apply Kd.N_drew)); exact Kd.N_mono HO522.out (fun _ hk => hk.1), bq1_ HB GE509⟩
    ·rw [if_neg c6] at H
     exact absurd H (by simp)
   ·rw [if_neg c5] at H
    have c5b0 : (t510 == (-1)) = false := beq_eq_false_iff_ne.mpr c5
    have c5b1 : (t510 != (-1)) = true := bne_iff_ne.mpr c5
    by_cases c20 : t510 = 2
    ·rw [if_pos c20] at H
     have c20b0 : (t510 == 2) = true := beq_iff_eq.mpr c20
     have c20b1 : (t510 != 2) = false := bne_eq_false_iff_eq.mpr c20
     clear c20
     obtain ⟨y523, hy523⟩ : ∃ y_ : List (S24), y_ = (([(⟨a0_3, l0_4⟩ : S24), (⟨a0_1, l0_2⟩ : S24)] : List (S24))) := ⟨_, rfl⟩
     replace H : (if y514.length < 5864062014805 then (some (y514 ++ [y523])) else (none)) = some r := by first | (rw [hy523]; with_reducible exact H) | (have H2_ := (Option.bind_some _ _).symm.trans H; rw [hy523]; with_reducible exact H2_) | (have H2_ := (Option.bind_some _ _).symm.trans H; with_reducible exact H2_) | with_reducible exact H | (rw [hy523]; exact H) | exact H
     have Ny523 := Az_.mk hy523
     clear hy523
     by_cases c21 : y514.length < 5864062014805
     ·rw [if_pos c21] at H
      have LMc21 := Az_.mk c21
      clear c21
      obtain ⟨y526, hy526⟩ : ∃ y_ : List (List (S24)), y_ = (y514 ++ [y523]) := ⟨_, rfl⟩
      replace H : (some y526) = some r := by first | (rw [hy526]; with_reducible exact H) | (have H2_ := (Option.bind_some _ _).symm.trans H; rw [hy526]; with_reducible exact H2_) | (have H2_ := (Option.bind_some _ _).symm.trans H; with_reducible exact H2_) | with_reducible exact H | (rw [hy526]; exact H) | exact H
      have Ny526 := Az_.mk hy526
      clear hy526
      obtain rfl := Option.some.inj H
      go_enter Try.func69, Try.ntmps69
      go_wp2_with (first | ((with_reducible refine yag_ (N := 1) rfl ?_); refine yah_ ?hg (N := 1) ?hd (cs := #[.bool a0_0, .int .i64 a0_1, .slice A0_2 l0_2.length c0_2, .int .i64 a0_3, .slice A0_4 l0_4.length c0_4]) (t := 81) ?hr ?_; (case hd => rfl); (case hg => rfl); (case hr => exact rq_); intro gb509 hg w22 hbox hb; replace HO0_2 := Az_.mk (Kd.V_below (Kd.V_elderB (vq_ HO0_2) gb509 (Nat.le_of_eq hg.symm)) hb); replace HO0_4 := Az_.mk (Kd.V_below (Kd.V_elderB (vq_ HO0_4) gb509 (Nat.le_of_eq hg.symm)) hb); have BK509 := Az_.mk (hbox); have GW509 := Az_.mk ((by rw [hg]; exact (bZ_ (bq_ HB)) : w.heap.size ≤ gb509)); have GE509 := Az_.mk ((by rw [hg]; exact (bZ_ (bq_ HB)) : w.heap.size ≤ gb509)); replace HB := Az_.mk (bT_ (bq_ HB) hb); clear hb hbox hg; obtain ⟨hcz23_0, hcz23_1, hcz23_2, hcz23_3, hcz23_4, hfz23_0, hfz23_1, hfz23_2, hfz23_3, hfz23_4⟩ := cz5_ BK509) | ((with_reducible refine yaf_ (f := 44) rfl ?_); refine goesL_ (some 9) rfl rfl Try.func44 (by kernel_rfl) rfl #[.agg #[.int .i64 a0_1, .slice A0_2 l0_2.length c0_2], .agg #[.int .i64 a0_3, .slice A0_4 l0_4.length c0_4]] rfl mq_ ?_; (with_reducible refine (soritesref10_Compare.calls k a0_1 _ _ l0_2 a0_3 _ _ l0_4 t510 _ ?side1 ?side2 ?side3 ?side4 A2.out).mono ?_); (case side1 => repeat (first | exact (Kd.V_reads' HO0_2.out).2.2 | (with_reducible refine Kd.C_alloc ?_ _) | (with_reducible refine Kd.C_drewN ?_ _) | (with_reducible refine Kd.C_drew ?_))); (case side2 => exact (Kd.V_reads' HO0_2.out).2.1); (case side3 => repeat (first | exact (Kd.V_reads' HO0_4.out).2.2 | (with_reducible refine Kd.C_alloc ?_ _) | (with_reducible refine Kd.C_drewN ?_ _) | (with_reducible refine Kd.C_drew ?_))); (case side4 => exact (Kd.V_reads' HO0_4.out).2.1); rintro e w24 ⟨rfl, hb⟩; refine ⟨_, rfl, ?_⟩; replace HO0_2 := Az_.mk (Kd.V_below (vq_ HO0_2) hb); replace HO0_4 := Az_.mk (Kd.V_below (vq_ HO0_4) hb); replace BK509 := kb_ BK509 hb; replace HB := Az_.mk (bT_ (bq1_ HB GE509) hb); (try clear hb); (try clear hb2); (try clear hk); (try clear hi); obtain ⟨hcz25_0, hcz25_1, hcz25_2, hcz25_3, hcz25_4, hfz25_0, hfz25_1, hfz25_2, hfz25_3, hfz25_4⟩ := cz5_ BK509) | ((with_reducible refine yag_ (N := 17) rfl ?_); refine Kd.N_lit k24 _ 24 ?hg (N' := 17) ?hd (xs := ([(⟨a0_1, l0_2⟩ : S24), (⟨a0_3, l0_4⟩ : S24)] : List (S24))) (inner := [.int .i64 a0_1, .slice A0_2 l0_2.length c0_2, .int .i64 a0_3, .slice A0_4 l0_4.length c0_4]) (ok := (fun k_ => ((P0_2_ k_ ∨ P0_4_ k_) ∨ w.heap.size ≤ k_) ∧ k_ ≠ gb509)) (okp := (fun k_ => ((P0_2_ k_ ∨ P0_4_ k_) ∨ w.heap.size ≤ k_) ∧ k_ ≠ gb509)) ?hr ?hp (fun _ hk => hk) ((show ∀ k_, w24.heap.size ≤ k_ → (fun k_ => ((P0_2_ k_ ∨ P0_4_ k_) ∨ w.heap.size ≤ k_) ∧ k_ ≠ gb509) k_ from fun k_ hk => ⟨(.inr (Nat.le_trans (bZ_ (bq1_ HB GE509)) hk)), Kd.freshB (g := gb509) (o := .cells #[.bool a0_0, .int .i64 a0_1, .slice A0_2 l0_2.length c0_2, .int .i64 a0_3, .slice A0_4 l0_4.length c0_4] 81 (0, 0)) (kq_ BK509) k_ hk⟩) _ (Nat.le_refl _)) (Below.refl _ _) (Nat.le_refl _) (by simp) ?_; (case hd => rfl); (case hg => rfl); (case hr => exact rq_); (case hp => exact (Reps.c2 (show Kd.FK k24 _ _ (⟨a0_1, l0_2⟩ : S24) [.int .i64 a0_1, .slice A0_2 l0_2.length c0_2] from (k24_mkF _ _ (⟨a0_1, l0_2⟩ : S24) (Kd.V_reads' (Kd.V_mono (ok' := (fun k_ => ((P0_2_ k_ ∨ P0_4_ k_) ∨ w.heap.size ≤ k_) ∧ k_ ≠ gb509)) (HO0_2.out) (fun k_ hk => ⟨hk.1, hk.2⟩))).2.1 (Kd.V_F (Kd.V_mono (ok' := (fun k_ => ((P0_2_ k_ ∨ P0_4_ k_) ∨ w.heap.size ≤ k_) ∧ k_ ≠ gb509)) (HO0_2.out) (fun k_ hk => ⟨hk.1, hk.2⟩))))) (Reps.c2 (show Kd.FK k24 _ _ (⟨a0_3, l0_4⟩ : S24) [.int .i64 a0_3, .slice A0_4 l0_4.length c0_4] from (k24_mkF _ _ (⟨a0_3, l0_4⟩ : S24) (Kd.V_reads' (Kd.V_mono (ok' := (fun k_ => ((P0_2_ k_ ∨ P0_4_ k_) ∨ w.heap.size ≤ k_) ∧ k_ ≠ gb509)) (HO0_4.out) (fun k_ hk => ⟨hk.1, hk.2⟩))).2.1 (Kd.V_F (Kd.V_mono (ok' := (fun k_ => ((P0_2_ k_ ∨ P0_4_ k_) ∨ w.heap.size ≤ k_) ∧ k_ ≠ gb509)) (HO0_4.out) (fun k_ hk => ⟨hk.1, hk.2⟩))))) (Reps.none _ _)))); intro v512 w26 ho27 hb hg_ hnew_; clear hg_ hnew_; (first | rw [← Ny511.out] at ho27 | (simp only [Int.reduceToNat] at ho27; rw [← Ny511.out] at ho27)); replace HO0_2 := Az_.mk (Kd.V_elder' (vq_ HO0_2) (Kd.N_base ho27) hb); replace HO0_4 := Az_.mk (Kd.V_elder' (vq_ HO0_4) (Kd.N_base ho27) hb); have HO513 := Az_.mk (Kd.N_lower ho27 (bZ_ (bq1_ HB GE509))); replace BK509 := kb_ BK509 hb; replace HB := Az_.mk (bT_ (bq1_ HB GE509) hb); clear hb ho27; obtain ⟨Ao29, co29, eo29⟩ := Kd.N_slice HO513.out; subst eo29) | ((with_reducible refine gate_builtin (b := .append) (xs := #[.tmp 12, .tmp 18]) rfl ?_); at_builtin; refine Kd.N_append (Kd.slice 24 k24) (w0 := w) w.heap.size rfl (.tmp 12) (.tmp 18) 87 22 (.slice none 0 0) 24 rfl Try.underlying87 info22 rfl (by decide) (by omega) (.slice none 0 0) ([] : List (List (S24))) y511 [.slice Ao29 y511.length co29] (fun k_ => ((P0_2_ k_ ∨ P0_4_ k_) ∨ w.heap.size ≤ k_) ∧ k_ ≠ gb509) (fun k_ => ((fun k_ => ((P0_2_ k_ ∨ P0_4_ k_) ∨ w.heap.size ≤ k_) ∧ k_ ≠ gb509)) k_ ∧ some k_ ≠ (.slice none 0 0 : Value).ownBlock) rfl rfl ?aP (fun _ hk => hk) ?aF ?aO ?aB ?aS ?aL ?_; (case aP => exact (Kd.FK_slice_mk (Kd.N_reads' (Kd.N_mono (ok' := (fun k_ => ((fun k_ => ((P0_2_ k_ ∨ P0_4_ k_) ∨ w.heap.size ≤ k_) ∧ k_ ≠ gb509)) k_ ∧ some k_ ≠ (.slice none 0 0 : Value).ownBlock)) (HO513.out) (fun k_ hk => ⟨⟨hk.1, hk.2⟩, (by simp [Value.ownBlock])⟩))).2.1 (Kd.N_F (Kd.N_mono (ok' := (fun k_ => ((fun k_ => ((P0_2_ k_ ∨ P0_4_ k_) ∨ w.heap.size ≤ k_) ∧ k_ ≠ gb509)) k_ ∧ some k_ ≠ (.slice none 0 0 : Value).ownBlock)) (HO513.out) (fun k_ hk => ⟨⟨hk.1, hk.2⟩, (by simp [Value.ownBlock])⟩))))); (case aB => exact (bq1_ HB GE509)); (case aF => exact (fun k_ hk => ⟨(.inr (Nat.le_trans (bZ_ (bq1_ HB GE509)) hk)), Kd.freshB (g := gb509) (o := .cells #[.bool a0_0, .int .i64 a0_1, .slice A0_2 l0_2.length c0_2, .int .i64 a0_3, .slice A0_4 l0_4.length c0_4] 81 (0, 0)) (kq_ BK509) k_ hk⟩)); (case aO => exact ((Kd.N_nil _ _ _ _ (fun k_ => ((P0_2_ k_ ∨ P0_4_ k_) ∨ w.heap.size ≤ k_) ∧ k_ ≠ gb509)))); (case aS => exact (bZ_ (bq1_ HB GE509))); (case aL => have := LMc4.out; omega); intro v515 w28 ho hb hg hat; rw [← Ny514.out] at ho; have n0_ := Az_.mk (Kd.V_afterv (Kd.V_apart_nil (vq_ HO0_2)) hg hat); have n1_ := Az_.mk (Kd.V_afterv (Kd.V_apart_nil (vq_ HO0_4)) hg hat); have n2_ := Az_.mk (blk_grown (g := gb509) (o := .cells #[.bool a0_0, .int .i64 a0_1, .slice A0_2 l0_2.length c0_2, .int .i64 a0_3, .slice A0_4 l0_4.length c0_4] 81 (0, 0)) (kq_ BK509) hg (by simp [Value.ownBlock])); have n3_ := Az_.mk (hb); have n4_ := Az_.mk (ho); clear HO0_2; clear HO0_4; clear BK509; clear HB; clear HO513; have HO0_2 := n0_; have HO0_4 := n1_; have BK509 := n2_; have HB := n3_; have HO516 := n4_; clear n0_ n1_ n2_ n3_ n4_; clear ho hb hg hat; obtain ⟨hcz30_0, hcz30_1, hcz30_2, hcz30_3, hcz30_4, hfz30_0, hfz30_1, hfz30_2, hfz30_3, hfz30_4⟩ := cz5_ BK509) | ((with_reducible refine yag_ (N := 31) rfl ?_); refine Kd.N_lit k24 _ 24 ?hg (N' := 31) ?hd (xs := ([(⟨a0_3, l0_4⟩ : S24), (⟨a0_1, l0_2⟩ : S24)] : List (S24))) (inner := [.int .i64 a0_3, .slice A0_4 l0_4.length c0_4, .int .i64 a0_1, .slice A0_2 l0_2.length c0_2]) (ok := (fun k_ => ((P0_2_ k_ ∨ P0_4_ k_) ∨ w.heap.size ≤ k_) ∧ some k_ ≠ (v515 : Value).ownBlock ∧ k_ ≠ gb509)) (okp := (fun k_ => ((P0_2_ k_ ∨ P0_4_ k_) ∨ w.heap.size ≤ k_) ∧ some k_ ≠ (v515 : Value).ownBlock ∧ k_ ≠ gb509)) ?hr ?hp (fun _ hk => hk) ((show ∀ k_, w28.heap.size ≤ k_ → (fun k_ => ((P0_2_ k_ ∨ P0_4_ k_) ∨ w.heap.size ≤ k_) ∧ some k_ ≠ (v515 : Value).ownBlock ∧ k_ ≠ gb509) k_ from fun k_ hk => ⟨(.inr (Nat.le_trans (bZ_ (bq1_ HB GE509)) hk)), Kd.fresh' (Kd.N_lt (nq_ HO516)) k_ hk, Kd.freshB (g := gb509) (o := .cells #[.bool a0_0, .int .i64 a0_1, .slice A0_2 l0_2.length c0_2, .int .i64 a0_3, .slice A0_4 l0_4.length c0_4] 81 (0, 0)) (kq_ BK509) k_ hk⟩) _ (Nat.le_refl _)) (Below.refl _ _) (Nat.le_refl _) (by simp) ?_; (case hd => rfl); (case hg => rfl); (case hr => exact rq_); (case hp => exact (Reps.c2 (show Kd.FK k24 _ _ (⟨a0_3, l0_4⟩ : S24) [.int .i64 a0_3, .slice A0_4 l0_4.length c0_4] from (k24_mkF _ _ (⟨a0_3, l0_4⟩ : S24) (Kd.V_reads' (Kd.V_mono (ok' := (fun k_ => ((P0_2_ k_ ∨ P0_4_ k_) ∨ w.heap.size ≤ k_) ∧ some k_ ≠ (v515 : Value).ownBlock ∧ k_ ≠ gb509)) (HO0_4.out) (fun k_ hk => ⟨hk.1.1.1, ⟨hk.2, hk.1.1.2⟩⟩))).2.1 (Kd.V_F (Kd.V_mono (ok' := (fun k_ => ((P0_2_ k_ ∨ P0_4_ k_) ∨ w.heap.size ≤ k_) ∧ some k_ ≠ (v515 : Value).ownBlock ∧ k_ ≠ gb509)) (HO0_4.out) (fun k_ hk => ⟨hk.1.1.1, ⟨hk.2, hk.1.1.2⟩⟩))))) (Reps.c2 (show Kd.FK k24 _ _ (⟨a0_1, l0_2⟩ : S24) [.int .i64 a0_1, .slice A0_2 l0_2.length c0_2] from (k24_mkF _ _ (⟨a0_1, l0_2⟩ : S24) (Kd.V_reads' (Kd.V_mono (ok' := (fun k_ => ((P0_2_ k_ ∨ P0_4_ k_) ∨ w.heap.size ≤ k_) ∧ some k_ ≠ (v515 : Value).ownBlock ∧ k_ ≠ gb509)) (HO0_2.out) (fun k_ hk => ⟨hk.1.1.1, ⟨hk.2, hk.1.1.2⟩⟩))).2.1 (Kd.V_F (Kd.V_mono (ok' := (fun k_ => ((P0_2_ k_ ∨ P0_4_ k_) ∨ w.heap.size ≤ k_) ∧ some k_ ≠ (v515 : Value).ownBlock ∧ k_ ≠ gb509)) (HO0_2.out) (fun k_ hk => ⟨hk.1.1.1, ⟨hk.2, hk.1.1.2⟩⟩))))) (Reps.none _ _)))); intro v524 w31 ho32 hb hg_ hnew_; clear hg_ hnew_; (first | rw [← Ny523.out] at ho32 | (simp only [Int.reduceToNat] at ho32; rw [← Ny523.out] at ho32)); replace HO0_2 := Az_.mk (Kd.V_elder' (vq_ HO0_2) (Kd.N_base ho32) hb); replace HO0_4 := Az_.mk (Kd.V_elder' (vq_ HO0_4) (Kd.N_base ho32) hb); replace HO516 := Az_.mk (Kd.N_elder' (nq_ HO516) (Kd.N_base ho32) hb); have HO525 := Az_.mk (Kd.N_lower ho32 (bZ_ (bq1_ HB GE509))); replace BK509 := kb_ BK509 hb; replace HB := Az_.mk (bT_ (bq1_ HB GE509) hb); clear hb ho32; obtain ⟨Ao34, co34, eo34⟩ := Kd.N_slice HO525.out; subst eo34) | ((with_reducible refine gate_builtin (b := .append) (xs := #[.tmp 26, .tmp 32]) rfl ?_); at_builtin; refine Kd.N_append (Kd.slice 24 k24) (w0 := w) w.heap.size rfl (.tmp 26) (.tmp 32) 87 22 (.slice none 0 0) 24 rfl Try.underlying87 info22 rfl (by decide) (by omega) v515 y514 y523 [.slice Ao34 y523.length co34] (fun k_ => ((P0_2_ k_ ∨ P0_4_ k_) ∨ w.heap.size ≤ k_) ∧ k_ ≠ gb509) (fun k_ => ((fun k_ => ((P0_2_ k_ ∨ P0_4_ k_) ∨ w.heap.size ≤ k_) ∧ k_ ≠ gb509)) k_ ∧ some k_ ≠ (v515 : Value).ownBlock) rfl rfl ?aP (fun _ hk => hk) ?aF ?aO ?aB ?aS ?aL ?_; (case aP => exact (Kd.FK_slice_mk (Kd.N_reads' (Kd.N_mono (ok' := (fun k_ => ((fun k_ => ((P0_2_ k_ ∨ P0_4_ k_) ∨ w.heap.size ≤ k_) ∧ k_ ≠ gb509)) k_ ∧ some k_ ≠ (v515 : Value).ownBlock)) (HO525.out) (fun k_ hk => ⟨⟨hk.1, hk.2.2⟩, hk.2.1⟩))).2.1 (Kd.N_F (Kd.N_mono (ok' := (fun k_ => ((fun k_ => ((P0_2_ k_ ∨ P0_4_ k_) ∨ w.heap.size ≤ k_) ∧ k_ ≠ gb509)) k_ ∧ some k_ ≠ (v515 : Value).ownBlock)) (HO525.out) (fun k_ hk => ⟨⟨hk.1, hk.2.2⟩, hk.2.1⟩))))); (case aB => exact (bq1_ HB GE509)); (case aF => exact (fun k_ hk => ⟨(.inr (Nat.le_trans (bZ_ (bq1_ HB GE509)) hk)), Kd.freshB (g := gb509) (o := .cells #[.bool a0_0, .int .i64 a0_1, .slice A0_2 l0_2.length c0_2, .int .i64 a0_3, .slice A0_4 l0_4.length c0_4] 81 (0, 0)) (kq_ BK509) k_ hk⟩)); (case aO => exact (by (with_reducible repeat (first | apply Kd.N_alloc | apply Kd.N_drewN | apply Kd.N_drew)); exact Kd.N_mono HO516.out (fun _ hk => ⟨hk.1.1, hk.1.2⟩))); (case aS => exact (bZ_ (bq1_ HB GE509))); (case aL => have := LMc21.out; omega); intro v527 w33 ho hb hg hat; rw [← Ny526.out] at ho; have n0_ := Az_.mk (Kd.V_afterv (ok := (fun k_ => ((P0_2_ k_ ∨ P0_4_ k_) ∨ w.heap.size ≤ k_) ∧ some k_ ≠ (.slice Ao34 y523.length co34 : Value).ownBlock ∧ k_ ≠ gb509)) (by (with_reducible repeat (first | apply Kd.V_alloc | apply Kd.V_drewN | apply Kd.V_drew)); exact Kd.V_mono HO0_2.out (fun _ hk => ⟨⟨hk.1.1.1.1, ⟨hk.2, hk.1.1.1.2⟩⟩, hk.1.2⟩)) hg hat); have n1_ := Az_.mk (Kd.V_afterv (ok := (fun k_ => ((P0_2_ k_ ∨ P0_4_ k_) ∨ w.heap.size ≤ k_) ∧ some k_ ≠ (.slice Ao34 y523.length co34 : Value).ownBlock ∧ k_ ≠ gb509)) (by (with_reducible repeat (first | apply Kd.V_alloc | apply Kd.V_drewN | apply Kd.V_drew)); exact Kd.V_mono HO0_4.out (fun _ hk => ⟨⟨hk.1.1.1.1, ⟨hk.2, hk.1.1.1.2⟩⟩, hk.1.2⟩)) hg hat); have n2_ := Az_.mk (blk_grown (g := gb509) (o := .cells #[.bool a0_0, .int .i64 a0_1, .slice A0_2 l0_2.length c0_2, .int .i64 a0_3, .slice A0_4 l0_4.length c0_4] 81 (0, 0)) (kq_ BK509) hg (Kd.N_ne HO516.out BK509.out (by decide))); have n3_ := Az_.mk (hb); have n4_ := Az_.mk (ho); clear HO0_2; clear HO0_4; clear BK509; clear HB; clear HO516; clear HO525; have HO0_2 := n0_; have HO0_4 := n1_; have BK509 := n2_; have HB := n3_; have HO528 := n4_; clear n0_ n1_ n2_ n3_ n4_; clear ho hb hg hat))
      go_ret
      exact ⟨_, by first | rfl | (simp [yad_, yac_] <;> rfl) | (simp [*, yad_, yac_] <;> rfl), by (with_reducible repeat (first | apply Kd.N_alloc | apply Kd.N_drewN | apply Kd.N_drew)); exact Kd.N_mono HO528.out (fun _ hk => hk.1), bq1_ HB GE509⟩
     ·rw [if_neg c21] at H
      exact absurd H (by simp)
    ·rw [if_neg c20] at H
     have c20b0 : (t510 == 2) = false := beq_eq_false_iff_ne.mpr c20
     have c20b1 : (t510 != 2) = true := bne_iff_ne.mpr c20
     obtain rfl := Option.some.inj H
     go_enter Try.func69, Try.ntmps69
     go_wp2_with (first | ((with_reducible refine yag_ (N := 1) rfl ?_); refine yah_ ?hg (N := 1) ?hd (cs := #[.bool a0_0, .int .i64 a0_1, .slice A0_2 l0_2.length c0_2, .int .i64 a0_3, .slice A0_4 l0_4.length c0_4]) (t := 81) ?hr ?_; (case hd => rfl); (case hg => rfl); (case hr => exact rq_); intro gb509 hg w35 hbox hb; replace HO0_2 := Az_.mk (Kd.V_below (Kd.V_elderB (vq_ HO0_2) gb509 (Nat.le_of_eq hg.symm)) hb); replace HO0_4 := Az_.mk (Kd.V_below (Kd.V_elderB (vq_ HO0_4) gb509 (Nat.le_of_eq hg.symm)) hb); have BK509 := Az_.mk (hbox); have GW509 := Az_.mk ((by rw [hg]; exact (bZ_ (bq_ HB)) : w.heap.size ≤ gb509)); have GE509 := Az_.mk ((by rw [hg]; exact (bZ_ (bq_ HB)) : w.heap.size ≤ gb509)); replace HB := Az_.mk (bT_ (bq_ HB) hb); clear hb hbox hg; obtain ⟨hcz36_0, hcz36_1, hcz36_2, hcz36_3, hcz36_4, hfz36_0, hfz36_1, hfz36_2, hfz36_3, hfz36_4⟩ := cz5_ BK509) | ((with_reducible refine yaf_ (f := 44) rfl ?_); refine goesL_ (some 9) rfl rfl Try.func44 (by kernel_rfl) rfl #[.agg #[.int .i64 a0_1, .slice A0_2 l0_2.length c0_2], .agg #[.int .i64 a0_3, .slice A0_4 l0_4.length c0_4]] rfl mq_ ?_; (with_reducible refine (soritesref10_Compare.calls k a0_1 _ _ l0_2 a0_3 _ _ l0_4 t510 _ ?side1 ?side2 ?side3 ?side4 A2.out).mono ?_); (case side1 => repeat (first | exact (Kd.V_reads' HO0_2.out).2.2 | (with_reducible refine Kd.C_alloc ?_ _) | (with_reducible refine Kd.C_drewN ?_ _) | (with_reducible refine Kd.C_drew ?_))); (case side2 => exact (Kd.V_reads' HO0_2.out).2.1); (case side3 => repeat (first | exact (Kd.V_reads' HO0_4.out).2.2 | (with_reducible refine Kd.C_alloc ?_ _) | (with_reducible refine Kd.C_drewN ?_ _) | (with_reducible refine Kd.C_drew ?_))); (case side4 => exact (Kd.V_reads' HO0_4.out).2.1); rintro e w37 ⟨rfl, hb⟩; refine ⟨_, rfl, ?_⟩; replace HO0_2 := Az_.mk (Kd.V_below (vq_ HO0_2) hb); replace HO0_4 := Az_.mk (Kd.V_below (vq_ HO0_4) hb); replace BK509 := kb_ BK509 hb; replace HB := Az_.mk (bT_ (bq1_ HB GE509) hb); (try clear hb); (try clear hb2); (try clear hk); (try clear hi); obtain ⟨hcz38_0, hcz38_1, hcz38_2, hcz38_3, hcz38_4, hfz38_0, hfz38_1, hfz38_2, hfz38_3, hfz38_4⟩ := cz5_ BK509) | ((with_reducible refine yag_ (N := 17) rfl ?_); refine Kd.N_lit k24 _ 24 ?hg (N' := 17) ?hd (xs := ([(⟨a0_1, l0_2⟩ : S24), (⟨a0_3, l0_4⟩ : S24)] : List (S24))) (inner := [.int .i64 a0_1, .slice A0_2 l0_2.length c0_2, .int .i64 a0_3, .slice A0_4 l0_4.length c0_4]) (ok := (fun k_ => ((P0_2_ k_ ∨ P0_4_ k_) ∨ w.heap.size ≤ k_) ∧ k_ ≠ gb509)) (okp := (fun k_ => ((P0_2_ k_ ∨ P0_4_ k_) ∨ w.heap.size ≤ k_) ∧ k_ ≠ gb509)) ?hr ?hp (fun _ hk => hk) ((show ∀ k_, w37.heap.size ≤ k_ → (fun k_ => ((P0_2_ k_ ∨ P0_4_ k_) ∨ w.heap.size ≤ k_) ∧ k_ ≠ gb509) k_ from fun k_ hk => ⟨(.inr (Nat.le_trans (bZ_ (bq1_ HB GE509)) hk)), Kd.freshB (g := gb509) (o := .cells #[.bool a0_0, .int .i64 a0_1, .slice A0_2 l0_2.length c0_2, .int .i64 a0_3, .slice A0_4 l0_4.length c0_4] 81 (0, 0)) (kq_ BK509) k_ hk⟩) _ (Nat.le_refl _)) (Below.refl _ _) (Nat.le_refl _) (by simp) ?_; (case hd => rfl); (case hg => rfl); (case hr => exact rq_); (case hp => exact (Reps.c2 (show Kd.FK k24 _ _ (⟨a0_1, l0_2⟩ : S24) [.int .i64 a0_1, .slice A0_2 l0_2.length c0_2] from (k24_mkF _ _ (⟨a0_1, l0_2⟩ : S24) (Kd.V_reads' (Kd.V_mono (ok' := (fun k_ => ((P0_2_ k_ ∨ P0_4_ k_) ∨ w.heap.size ≤ k_) ∧ k_ ≠ gb509)) (HO0_2.out) (fun k_ hk => ⟨hk.1, hk.2⟩))).2.1 (Kd.V_F (Kd.V_mono (ok' := (fun k_ => ((P0_2_ k_ ∨ P0_4_ k_) ∨ w.heap.size ≤ k_) ∧ k_ ≠ gb509)) (HO0_2.out) (fun k_ hk => ⟨hk.1, hk.2⟩))))) (Reps.c2 (show Kd.FK k24 _ _ (⟨a0_3, l0_4⟩ : S24) [.int .i64 a0_3, .slice A0_4 l0_4.length c0_4] from (k24_mkF _ _ (⟨a0_3, l0_4⟩ : S24) (Kd.V_reads' (Kd.V_mono (ok' := (fun k_ => ((P0_2_ k_ ∨ P0_4_ k_) ∨ w.heap.size ≤ k_) ∧ k_ ≠ gb509)) (HO0_4.out) (fun k_ hk => ⟨hk.1, hk.2⟩))).2.1 (Kd.V_F (Kd.V_mono (ok' := (fun k_ => ((P0_2_ k_ ∨ P0_4_ k_) ∨ w.heap.size ≤ k_) ∧ k_ ≠ gb509)) (HO0_4.out) (fun k_ hk => ⟨hk.1, hk.2⟩))))) (Reps.none _ _)))); intro v512 w39 ho40 hb hg_ hnew_; clear hg_ hnew_; (first | rw [← Ny511.out] at ho40 | (simp only [Int.reduceToNat] at ho40; rw [← Ny511.out] at ho40)); replace HO0_2 := Az_.mk (Kd.V_elder' (vq_ HO0_2) (Kd.N_base ho40) hb); replace HO0_4 := Az_.mk (Kd.V_elder' (vq_ HO0_4) (Kd.N_base ho40) hb); have HO513 := Az_.mk (Kd.N_lower ho40 (bZ_ (bq1_ HB GE509))); replace BK509 := kb_ BK509 hb; replace HB := Az_.mk (bT_ (bq1_ HB GE509) hb); clear hb ho40; obtain ⟨Ao42, co42, eo42⟩ := Kd.N_slice HO513.out; subst eo42) | ((with_reducible refine gate_builtin (b := .append) (xs := #[.tmp 12, .tmp 18]) rfl ?_); at_builtin; refine Kd.N_append (Kd.slice 24 k24) (w0 := w) w.heap.size rfl (.tmp 12) (.tmp 18) 87 22 (.slice none 0 0) 24 rfl Try.underlying87 info22 rfl (by decide) (by omega) (.slice none 0 0) ([] : List (List (S24))) y511 [.slice Ao42 y511.length co42] (fun k_ => ((P0_2_ k_ ∨ P0_4_ k_) ∨ w.heap.size ≤ k_) ∧ k_ ≠ gb509) (fun k_ => ((fun k_ => ((P0_2_ k_ ∨ P0_4_ k_) ∨ w.heap.size ≤ k_) ∧ k_ ≠ gb509)) k_ ∧ some k_ ≠ (.slice none 0 0 : Value).ownBlock) rfl rfl ?aP (fun _ hk => hk) ?aF ?aO ?aB ?aS ?aL ?_; (case aP => exact (Kd.FK_slice_mk (Kd.N_reads' (Kd.N_mono (ok' := (fun k_ => ((fun k_ => ((P0_2_ k_ ∨ P0_4_ k_) ∨ w.heap.size ≤ k_) ∧ k_ ≠ gb509)) k_ ∧ some k_ ≠ (.slice none 0 0 : Value).ownBlock)) (HO513.out) (fun k_ hk => ⟨⟨hk.1, hk.2⟩, (by simp [Value.ownBlock])⟩))).2.1 (Kd.N_F (Kd.N_mono (ok' := (fun k_ => ((fun k_ => ((P0_2_ k_ ∨ P0_4_ k_) ∨ w.heap.size ≤ k_) ∧ k_ ≠ gb509)) k_ ∧ some k_ ≠ (.slice none 0 0 : Value).ownBlock)) (HO513.out) (fun k_ hk => ⟨⟨hk.1, hk.2⟩, (by simp [Value.ownBlock])⟩))))); (case aB => exact (bq1_ HB GE509)); (case aF => exact (fun k_ hk => ⟨(.inr (Nat.le_trans (bZ_ (bq1_ HB GE509)) hk)), Kd.freshB (g := gb509) (o := .cells #[.bool a0_0, .int .i64 a0_1, .slice A0_2 l0_2.length c0_2, .int .i64 a0_3, .slice A0_4 l0_4.length c0_4] 81 (0, 0)) (kq_ BK509) k_ hk⟩)); (case aO => exact ((Kd.N_nil _ _ _ _ (fun k_ => ((P0_2_ k_ ∨ P0_4_ k_) ∨ w.heap.size ≤ k_) ∧ k_ ≠ gb509)))); (case aS => exact (bZ_ (bq1_ HB GE509))); (case aL => have := LMc4.out; omega); intro v515 w41 ho hb hg hat; rw [← Ny514.out] at ho; have n0_ := Az_.mk (Kd.V_afterv (Kd.V_apart_nil (vq_ HO0_2)) hg hat); have n1_ := Az_.mk (Kd.V_afterv (Kd.V_apart_nil (vq_ HO0_4)) hg hat); have n2_ := Az_.mk (blk_grown (g := gb509) (o := .cells #[.bool a0_0, .int .i64 a0_1, .slice A0_2 l0_2.length c0_2, .int .i64 a0_3, .slice A0_4 l0_4.length c0_4] 81 (0, 0)) (kq_ BK509) hg (by simp [Value.ownBlock])); have n3_ := Az_.mk (hb); have n4_ := Az_.mk (ho); clear HO0_2; clear HO0_4; clear BK509; clear HB; clear HO513; have HO0_2 := n0_; have HO0_4 := n1_; have BK509 := n2_; have HB := n3_; have HO516 := n4_; clear n0_ n1_ n2_ n3_ n4_; clear ho hb hg hat))
     go_ret
     exact ⟨_, by first | rfl | (simp [yad_, yac_] <;> rfl) | (simp [*, yad_, yac_] <;> rfl), by (with_reducible repeat (first | apply Kd.N_alloc | apply Kd.N_drewN | apply Kd.N_drew)); exact Kd.N_mono HO516.out (fun _ hk => hk.1), bq1_ HB GE509⟩
  ·rw [if_neg c4] at H
   exact absurd H (by simp)
 ·rw [if_neg c3] at H
  have c3b0 : decide (0 < t510) = false := decide_eq_false c3
  clear c3
  by_cases c43 : t510 = (-1)
  ·rw [if_pos c43] at H
   have c43b0 : (t510 == (-1)) = true := beq_iff_eq.mpr c43
   have c43b1 : (t510 != (-1)) = false := bne_eq_false_iff_eq.mpr c43
   clear c43
   obtain ⟨y529, hy529⟩ : ∃ y_ : List (S24), y_ = (([(⟨a0_3, l0_4⟩ : S24), (⟨a0_1, l0_2⟩ : S24)] : List (S24))) := ⟨_, rfl⟩
   replace H : (if ([] : List (List (S24))).length < 5864062014805 then (some (([] : List (List (S24))) ++ [y529])) else (none)) = some r := by first | (rw [hy529]; with_reducible exact H) | (have H2_ := (Option.bind_some _ _).symm.trans H; rw [hy529]; with_reducible exact H2_) | (have H2_ := (Option.bind_some _ _).symm.trans H; with_reducible exact H2_) | with_reducible exact H | (rw [hy529]; exact H) | exact H
   have Ny529 := Az_.mk hy529
   clear hy529
   by_cases c44 : ([] : List (List (S24))).length < 5864062014805
   ·rw [if_pos c44] at H
    have LMc44 := Az_.mk c44
    clear c44
    obtain ⟨y532, hy532⟩ : ∃ y_ : List (List (S24)), y_ = (([] : List (List (S24))) ++ [y529]) := ⟨_, rfl⟩
    replace H : (some y532) = some r := by first | (rw [hy532]; with_reducible exact H) | (have H2_ := (Option.bind_some _ _).symm.trans H; rw [hy532]; with_reducible exact H2_) | (have H2_ := (Option.bind_some _ _).symm.trans H; with_reducible exact H2_) | with_reducible exact H | (rw [hy532]; exact H) | exact H
    have Ny532 := Az_.mk hy532
    clear hy532
    obtain rfl := Option.some.inj H
    go_enter Try.func69, Try.ntmps69
    go_wp2_with (first | ((with_reducible refine yag_ (N := 1) rfl ?_); refine yah_ ?hg (N := 1) ?hd (cs := #[.bool a0_0, .int .i64 a0_1, .slice A0_2 l0_2.length c0_2, .int .i64 a0_3, .slice A0_4 l0_4.length c0_4]) (t := 81) ?hr ?_; (case hd => rfl); (case hg => rfl); (case hr => exact rq_); intro gb509 hg w45 hbox hb; replace HO0_2 := Az_.mk (Kd.V_below (Kd.V_elderB (vq_ HO0_2) gb509 (Nat.le_of_eq hg.symm)) hb); replace HO0_4 := Az_.mk (Kd.V_below (Kd.V_elderB (vq_ HO0_4) gb509 (Nat.le_of_eq hg.symm)) hb); have BK509 := Az_.mk (hbox); have GW509 := Az_.mk ((by rw [hg]; exact (bZ_ (bq_ HB)) : w.heap.size ≤ gb509)); have GE509 := Az_.mk ((by rw [hg]; exact (bZ_ (bq_ HB)) : w.heap.size ≤ gb509)); replace HB := Az_.mk (bT_ (bq_ HB) hb); clear hb hbox hg; obtain ⟨hcz46_0, hcz46_1, hcz46_2, hcz46_3, hcz46_4, hfz46_0, hfz46_1, hfz46_2, hfz46_3, hfz46_4⟩ := cz5_ BK509) | ((with_reducible refine yaf_ (f := 44) rfl ?_); refine goesL_ (some 9) rfl rfl Try.func44 (by kernel_rfl) rfl #[.agg #[.int .i64 a0_1, .slice A0_2 l0_2.length c0_2], .agg #[.int .i64 a0_3, .slice A0_4 l0_4.length c0_4]] rfl mq_ ?_; (with_reducible refine (soritesref10_Compare.calls k a0_1 _ _ l0_2 a0_3 _ _ l0_4 t510 _ ?side1 ?side2 ?side3 ?side4 A2.out).mono ?_); (case side1 => repeat (first | exact (Kd.V_reads' HO0_2.out).2.2 | (with_reducible refine Kd.C_alloc ?_ _) | (with_reducible refine Kd.C_drewN ?_ _) | (with_reducible refine Kd.C_drew ?_))); (case side2 => exact (Kd.V_reads' HO0_2.out).2.1); (case side3 => repeat (first | exact (Kd.V_reads' HO0_4.out).2.2 | (with_reducible refine Kd.C_alloc ?_ _) | (with_reducible refine Kd.C_drewN ?_ _) | (with_reducible refine Kd.C_drew ?_))); (case side4 => exact (Kd.V_reads' HO0_4.out).2.1); rintro e w47 ⟨rfl, hb⟩; refine ⟨_, rfl, ?_⟩; replace HO0_2 := Az_.mk (Kd.V_below (vq_ HO0_2) hb); replace HO0_4 := Az_.mk (Kd.V_below (vq_ HO0_4) hb); replace BK509 := kb_ BK509 hb; replace HB := Az_.mk (bT_ (bq1_ HB GE509) hb); (try clear hb); (try clear hb2); (try clear hk); (try clear hi); obtain ⟨hcz48_0, hcz48_1, hcz48_2, hcz48_3, hcz48_4, hfz48_0, hfz48_1, hfz48_2, hfz48_3, hfz48_4⟩ := cz5_ BK509) | ((with_reducible refine yag_ (N := 31) rfl ?_); refine Kd.N_lit k24 _ 24 ?hg (N' := 31) ?hd (xs := ([(⟨a0_3, l0_4⟩ : S24), (⟨a0_1, l0_2⟩ : S24)] : List (S24))) (inner := [.int .i64 a0_3, .slice A0_4 l0_4.length c0_4, .int .i64 a0_1, .slice A0_2 l0_2.length c0_2]) (ok := (fun k_ => ((P0_2_ k_ ∨ P0_4_ k_) ∨ w.heap.size ≤ k_) ∧ k_ ≠ gb509)) (okp := (fun k_ => ((P0_2_ k_ ∨ P0_4_ k_) ∨ w.heap.size ≤ k_) ∧ k_ ≠ gb509)) ?hr ?hp (fun _ hk => hk) ((show ∀ k_, w47.heap.size ≤ k_ → (fun k_ => ((P0_2_ k_ ∨ P0_4_ k_) ∨ w.heap.size ≤ k_) ∧ k_ ≠ gb509) k_ from fun k_ hk => ⟨(.inr (Nat.le_trans (bZ_ (bq1_ HB GE509)) hk)), Kd.freshB (g := gb509) (o := .cells #[.bool a0_0, .int .i64 a0_1, .slice A0_2 l0_2.length c0_2, .int .i64 a0_3, .slice A0_4 l0_4.length c0_4] 81 (0, 0)) (kq_ BK509) k_ hk⟩) _ (Nat.le_refl _)) (Below.refl _ _) (Nat.le_refl _) (by simp) ?_; (case hd => rfl); (case hg => rfl); (case hr => exact rq_); (case hp => exact (Reps.c2 (show Kd.FK k24 _ _ (⟨a0_3, l0_4⟩ : S24) [.int .i64 a0_3, .slice A0_4 l0_4.length c0_4] from (k24_mkF _ _ (⟨a0_3, l0_4⟩ : S24) (Kd.V_reads' (Kd.V_mono (ok' := (fun k_ => ((P0_2_ k_ ∨ P0_4_ k_) ∨ w.heap.size ≤ k_) ∧ k_ ≠ gb509)) (HO0_4.out) (fun k_ hk => ⟨hk.1, hk.2⟩))).2.1 (Kd.V_F (Kd.V_mono (ok' := (fun k_ => ((P0_2_ k_ ∨ P0_4_ k_) ∨ w.heap.size ≤ k_) ∧ k_ ≠ gb509)) (HO0_4.out) (fun k_ hk => ⟨hk.1, hk.2⟩))))) (Reps.c2 (show Kd.FK k24 _ _ (⟨a0_1, l0_2⟩ : S24) [.int .i64 a0_1, .slice A0_2 l0_2.length c0_2] from (k24_mkF _ _ (⟨a0_1, l0_2⟩ : S24) (Kd.V_reads' (Kd.V_mono (ok' := (fun k_ => ((P0_2_ k_ ∨ P0_4_ k_) ∨ w.heap.size ≤ k_) ∧ k_ ≠ gb509)) (HO0_2.out) (fun k_ hk => ⟨hk.1, hk.2⟩))).2.1 (Kd.V_F (Kd.V_mono (ok' := (fun k_ => ((P0_2_ k_ ∨ P0_4_ k_) ∨ w.heap.size ≤ k_) ∧ k_ ≠ gb509)) (HO0_2.out) (fun k_ hk => ⟨hk.1, hk.2⟩))))) (Reps.none _ _)))); intro v530 w49 ho50 hb hg_ hnew_; clear hg_ hnew_; (first | rw [← Ny529.out] at ho50 | (simp only [Int.reduceToNat] at ho50; rw [← Ny529.out] at ho50)); replace HO0_2 := Az_.mk (Kd.V_elder' (vq_ HO0_2) (Kd.N_base ho50) hb); replace HO0_4 := Az_.mk (Kd.V_elder' (vq_ HO0_4) (Kd.N_base ho50) hb); have HO531 := Az_.mk (Kd.N_lower ho50 (bZ_ (bq1_ HB GE509))); replace BK509 := kb_ BK509 hb; replace HB := Az_.mk (bT_ (bq1_ HB GE509) hb); clear hb ho50; obtain ⟨Ao52, co52, eo52⟩ := Kd.N_slice HO531.out; subst eo52) | ((with_reducible refine gate_builtin (b := .append) (xs := #[.tmp 26, .tmp 32]) rfl ?_); at_builtin; refine Kd.N_append (Kd.slice 24 k24) (w0 := w) w.heap.size rfl (.tmp 26) (.tmp 32) 87 22 (.slice none 0 0) 24 rfl Try.underlying87 info22 rfl (by decide) (by omega) (.slice none 0 0) ([] : List (List (S24))) y529 [.slice Ao52 y529.length co52] (fun k_ => ((P0_2_ k_ ∨ P0_4_ k_) ∨ w.heap.size ≤ k_) ∧ k_ ≠ gb509) (fun k_ => ((fun k_ => ((P0_2_ k_ ∨ P0_4_ k_) ∨ w.heap.size ≤ k_) ∧ k_ ≠ gb509)) k_ ∧ some k_ ≠ (.slice none 0 0 : Value).ownBlock) rfl rfl ?aP (fun _ hk => hk) ?aF ?aO ?aB ?aS ?aL ?_; (case aP => exact (Kd.FK_slice_mk (Kd.N_reads' (Kd.N_mono (ok' := (fun k_ => ((fun k_ => ((P0_2_ k_ ∨ P0_4_ k_) ∨ w.heap.size ≤ k_) ∧ k_ ≠ gb509)) k_ ∧ some k_ ≠ (.slice none 0 0 : Value).ownBlock)) (HO531.out) (fun k_ hk => ⟨⟨hk.1, hk.2⟩, (by simp [Value.ownBlock])⟩))).2.1 (Kd.N_F (Kd.N_mono (ok' := (fun k_ => ((fun k_ => ((P0_2_ k_ ∨ P0_4_ k_) ∨ w.heap.size ≤ k_) ∧ k_ ≠ gb509)) k_ ∧ some k_ ≠ (.slice none 0 0 : Value).ownBlock)) (HO531.out) (fun k_ hk => ⟨⟨hk.1, hk.2⟩, (by simp [Value.ownBlock])⟩))))); (case aB => exact (bq1_ HB GE509)); (case aF => exact (fun k_ hk => ⟨(.inr (Nat.le_trans (bZ_ (bq1_ HB GE509)) hk)), Kd.freshB (g := gb509) (o := .cells #[.bool a0_0, .int .i64 a0_1, .slice A0_2 l0_2.length c0_2, .int .i64 a0_3, .slice A0_4 l0_4.length c0_4] 81 (0, 0)) (kq_ BK509) k_ hk⟩)); (case aO => exact ((Kd.N_nil _ _ _ _ (fun k_ => ((P0_2_ k_ ∨ P0_4_ k_) ∨ w.heap.size ≤ k_) ∧ k_ ≠ gb509)))); (case aS => exact (bZ_ (bq1_ HB GE509))); (case aL => have := LMc44.out; omega); intro v533 w51 ho hb hg hat; rw [← Ny532.out] at ho; have n0_ := Az_.mk (Kd.V_afterv (Kd.V_apart_nil (vq_ HO0_2)) hg hat); have n1_ := Az_.mk (Kd.V_afterv (Kd.V_apart_nil (vq_ HO0_4)) hg hat); have n2_ := Az_.mk (blk_grown (g := gb509) (o := .cells #[.bool a0_0, .int .i64 a0_1, .slice A0_2 l0_2.length c0_2, .int .i64 a0_3, .slice A0_4 l0_4.length c0_4] 81 (0, 0)) (kq_ BK509) hg (by simp [Value.ownBlock])); have n3_ := Az_.mk (hb); have n4_ := Az_.mk (ho); clear HO0_2; clear HO0_4; clear BK509; clear HB; clear HO531; have HO0_2 := n0_; have HO0_4 := n1_; have BK509 := n2_; have HB := n3_; have HO534 := n4_; clear n0_ n1_ n2_ n3_ n4_; clear ho hb hg hat))
    go_ret
    exact ⟨_, by first | rfl | (simp [yad_, yac_] <;> rfl) | (simp [*, yad_, yac_] <;> rfl), by (with_reducible repeat (first | apply Kd.N_alloc | apply Kd.N_drewN | apply Kd.N_drew)); exact Kd.N_mono HO534.out (fun _ hk => hk.1), bq1_ HB GE509⟩
   ·rw [if_neg c44] at H
    exact absurd H (by simp)
  ·rw [if_neg c43] at H
   have c43b0 : (t510 == (-1)) = false := beq_eq_false_iff_ne.mpr c43
   have c43b1 : (t510 != (-1)) = true := bne_iff_ne.mpr c43
   by_cases c53 : t510 = 2
   ·rw [if_pos c53] at H
    have c53b0 : (t510 == 2) = true := beq_iff_eq.mpr c53
    have c53b1 : (t510 != 2) = false := bne_eq_false_iff_eq.mpr c53
    clear c53
    obtain ⟨y535, hy535⟩ : ∃ y_ : List (S24), y_ = (([(⟨a0_3, l0_4⟩ : S24), (⟨a0_1, l0_2⟩ : S24)] : List (S24))) := ⟨_, rfl⟩
    replace H : (if ([] : List (List (S24))).length < 5864062014805 then (some (([] : List (List (S24))) ++ [y535])) else (none)) = some r := by first | (rw [hy535]; with_reducible exact H) | (have H2_ := (Option.bind_some _ _).symm.trans H; rw [hy535]; with_reducible exact H2_) | (have H2_ := (Option.bind_some _ _).symm.trans H; with_reducible exact H2_) | with_reducible exact H | (rw [hy535]; exact H) | exact H
    have Ny535 := Az_.mk hy535
    clear hy535
    by_cases c54 : ([] : List (List (S24))).length < 5864062014805
    ·rw [if_pos c54] at H
     have LMc54 := Az_.mk c54
     clear c54
     obtain ⟨y538, hy538⟩ : ∃ y_ : List (List (S24)), y_ = (([] : List (List (S24))) ++ [y535]) := ⟨_, rfl⟩
     replace H : (some y538) = some r := by first | (rw [hy538]; with_reducible exact H) | (have H2_ := (Option.bind_some _ _).symm.trans H; rw [hy538]; with_reducible exact H2_) | (have H2_ := (Option.bind_some _ _).symm.trans H; with_reducible exact H2_) | with_reducible exact H | (rw [hy538]; exact H) | exact H
     have Ny538 := Az_.mk hy538
     clear hy538
     obtain rfl := Option.some.inj H
     go_enter Try.func69, Try.ntmps69
     go_wp2_with (first | ((with_reducible refine yag_ (N := 1) rfl ?_); refine yah_ ?hg (N := 1) ?hd (cs := #[.bool a0_0, .int .i64 a0_1, .slice A0_2 l0_2.length c0_2, .int .i64 a0_3, .slice A0_4 l0_4.length c0_4]) (t := 81) ?hr ?_; (case hd => rfl); (case hg => rfl); (case hr => exact rq_); intro gb509 hg w55 hbox hb; replace HO0_2 := Az_.mk (Kd.V_below (Kd.V_elderB (vq_ HO0_2) gb509 (Nat.le_of_eq hg.symm)) hb); replace HO0_4 := Az_.mk (Kd.V_below (Kd.V_elderB (vq_ HO0_4) gb509 (Nat.le_of_eq hg.symm)) hb); have BK509 := Az_.mk (hbox); have GW509 := Az_.mk ((by rw [hg]; exact (bZ_ (bq_ HB)) : w.heap.size ≤ gb509)); have GE509 := Az_.mk ((by rw [hg]; exact (bZ_ (bq_ HB)) : w.heap.size ≤ gb509)); replace HB := Az_.mk (bT_ (bq_ HB) hb); clear hb hbox hg; obtain ⟨hcz56_0, hcz56_1, hcz56_2, hcz56_3, hcz56_4, hfz56_0, hfz56_1, hfz56_2, hfz56_3, hfz56_4⟩ := cz5_ BK509) | ((with_reducible refine yaf_ (f := 44) rfl ?_); refine goesL_ (some 9) rfl rfl Try.func44 (by kernel_rfl) rfl #[.agg #[.int .i64 a0_1, .slice A0_2 l0_2.length c0_2], .agg #[.int .i64 a0_3, .slice A0_4 l0_4.length c0_4]] rfl mq_ ?_; (with_reducible refine (soritesref10_Compare.calls k a0_1 _ _ l0_2 a0_3 _ _ l0_4 t510 _ ?side1 ?side2 ?side3 ?side4 A2.out).mono ?_); (case side1 => repeat (first | exact (Kd.V_reads' HO0_2.out).2.2 | (with_reducible refine Kd.C_alloc ?_ _) | (with_reducible refine Kd.C_drewN ?_ _) | (with_reducible refine Kd.C_drew ?_))); (case side2 => exact (Kd.V_reads' HO0_2.out).2.1); (case side3 => repeat (first | exact (Kd.V_reads' HO0_4.out).2.2 | (with_reducible refine Kd.C_alloc ?_ _) | (with_reducible refine Kd.C_drewN ?_ _) | (with_reducible refine Kd.C_drew ?_))); (case side4 => exact (Kd.V_reads' HO0_4.out).2.1); rintro e w57 ⟨rfl, hb⟩; refine ⟨_, rfl, ?_⟩; replace HO0_2 := Az_.mk (Kd.V_below (vq_ HO0_2) hb); replace HO0_4 := Az_.mk (Kd.V_below (vq_ HO0_4) hb); replace BK509 := kb_ BK509 hb; replace HB := Az_.mk (bT_ (bq1_ HB GE509) hb); (try clear hb); (try clear hb2); (try clear hk); (try clear hi); obtain ⟨hcz58_0, hcz58_1, hcz58_2, hcz58_3, hcz58_4, hfz58_0, hfz58_1, hfz58_2, hfz58_3, hfz58_4⟩ := cz5_ BK509) | ((with_reducible refine yag_ (N := 31) rfl ?_); refine Kd.N_lit k24 _ 24 ?hg (N' := 31) ?hd (xs := ([(⟨a0_3, l0_4⟩ : S24), (⟨a0_1, l0_2⟩ : S24)] : List (S24))) (inner := [.int .i64 a0_3, .slice A0_4 l0_4.length c0_4, .int .i64 a0_1, .slice A0_2 l0_2.length c0_2]) (ok := (fun k_ => ((P0_2_ k_ ∨ P0_4_ k_) ∨ w.heap.size ≤ k_) ∧ k_ ≠ gb509)) (okp := (fun k_ => ((P0_2_ k_ ∨ P0_4_ k_) ∨ w.heap.size ≤ k_) ∧ k_ ≠ gb509)) ?hr ?hp (fun _ hk => hk) ((show ∀ k_, w57.heap.size ≤ k_ → (fun k_ => ((P0_2_ k_ ∨ P0_4_ k_) ∨ w.heap.size ≤ k_) ∧ k_ ≠ gb509) k_ from fun k_ hk => ⟨(.inr (Nat.le_trans (bZ_ (bq1_ HB GE509)) hk)), Kd.freshB (g := gb509) (o := .cells #[.bool a0_0, .int .i64 a0_1, .slice A0_2 l0_2.length c0_2, .int .i64 a0_3, .slice A0_4 l0_4.length c0_4] 81 (0, 0)) (kq_ BK509) k_ hk⟩) _ (Nat.le_refl _)) (Below.refl _ _) (Nat.le_refl _) (by simp) ?_; (case hd => rfl); (case hg => rfl); (case hr => exact rq_); (case hp => exact (Reps.c2 (show Kd.FK k24 _ _ (⟨a0_3, l0_4⟩ : S24) [.int .i64 a0_3, .slice A0_4 l0_4.length c0_4] from (k24_mkF _ _ (⟨a0_3, l0_4⟩ : S24) (Kd.V_reads' (Kd.V_mono (ok' := (fun k_ => ((P0_2_ k_ ∨ P0_4_ k_) ∨ w.heap.size ≤ k_) ∧ k_ ≠ gb509)) (HO0_4.out) (fun k_ hk => ⟨hk.1, hk.2⟩))).2.1 (Kd.V_F (Kd.V_mono (ok' := (fun k_ => ((P0_2_ k_ ∨ P0_4_ k_) ∨ w.heap.size ≤ k_) ∧ k_ ≠ gb509)) (HO0_4.out) (fun k_ hk => ⟨hk.1, hk.2⟩))))) (Reps.c2 (show Kd.FK k24 _ _ (⟨a0_1, l0_2⟩ : S24) [.int .i64 a0_1, .slice A0_2 l0_2.length c0_2] from (k24_mkF _ _ (⟨a0_1, l0_2⟩ : S24) (Kd.V_reads' (Kd.V_mono (ok' := (fun k_ => ((P0_2_ k_ ∨ P0_4_ k_) ∨ w.heap.size ≤ k_) ∧ k_ ≠ gb509)) (HO0_2.out) (fun k_ hk => ⟨hk.1, hk.2⟩))).2.1 (Kd.V_F (Kd.V_mono (ok' := (fun k_ => ((P0_2_ k_ ∨ P0_4_ k_) ∨ w.heap.size ≤ k_) ∧ k_ ≠ gb509)) (HO0_2.out) (fun k_ hk => ⟨hk.1, hk.2⟩))))) (Reps.none _ _)))); intro v536 w59 ho60 hb hg_ hnew_; clear hg_ hnew_; (first | rw [← Ny535.out] at ho60 | (simp only [Int.reduceToNat] at ho60; rw [← Ny535.out] at ho60)); replace HO0_2 := Az_.mk (Kd.V_elder' (vq_ HO0_2) (Kd.N_base ho60) hb); replace HO0_4 := Az_.mk (Kd.V_elder' (vq_ HO0_4) (Kd.N_base ho60) hb); have HO537 := Az_.mk (Kd.N_lower ho60 (bZ_ (bq1_ HB GE509))); replace BK509 := kb_ BK509 hb; replace HB := Az_.mk (bT_ (bq1_ HB GE509) hb); clear hb ho60; obtain ⟨Ao62, co62, eo62⟩ := Kd.N_slice HO537.out; subst eo62) | ((with_reducible refine gate_builtin (b := .append) (xs := #[.tmp 26, .tmp 32]) rfl ?_); at_builtin; refine Kd.N_append (Kd.slice 24 k24) (w0 := w) w.heap.size rfl (.tmp 26) (.tmp 32) 87 22 (.slice none 0 0) 24 rfl Try.underlying87 info22 rfl (by decide) (by omega) (.slice none 0 0) ([] : List (List (S24))) y535 [.slice Ao62 y535.length co62] (fun k_ => ((P0_2_ k_ ∨ P0_4_ k_) ∨ w.heap.size ≤ k_) ∧ k_ ≠ gb509) (fun k_ => ((fun k_ => ((P0_2_ k_ ∨ P0_4_ k_) ∨ w.heap.size ≤ k_) ∧ k_ ≠ gb509)) k_ ∧ some k_ ≠ (.slice none 0 0 : Value).ownBlock) rfl rfl ?aP (fun _ hk => hk) ?aF ?aO ?aB ?aS ?aL ?_; (case aP => exact (Kd.FK_slice_mk (Kd.N_reads' (Kd.N_mono (ok' := (fun k_ => ((fun k_ => ((P0_2_ k_ ∨ P0_4_ k_) ∨ w.heap.size ≤ k_) ∧ k_ ≠ gb509)) k_ ∧ some k_ ≠ (.slice none 0 0 : Value).ownBlock)) (HO537.out) (fun k_ hk => ⟨⟨hk.1, hk.2⟩, (by simp [Value.ownBlock])⟩))).2.1 (Kd.N_F (Kd.N_mono (ok' := (fun k_ => ((fun k_ => ((P0_2_ k_ ∨ P0_4_ k_) ∨ w.heap.size ≤ k_) ∧ k_ ≠ gb509)) k_ ∧ some k_ ≠ (.slice none 0 0 : Value).ownBlock)) (HO537.out) (fun k_ hk => ⟨⟨hk.1, hk.2⟩, (by simp [Value.ownBlock])⟩))))); (case aB => exact (bq1_ HB GE509)); (case aF => exact (fun k_ hk => ⟨(.inr (Nat.le_trans (bZ_ (bq1_ HB GE509)) hk)), Kd.freshB (g := gb509) (o := .cells #[.bool a0_0, .int .i64 a0_1, .slice A0_2 l0_2.length c0_2, .int .i64 a0_3, .slice A0_4 l0_4.length c0_4] 81 (0, 0)) (kq_ BK509) k_ hk⟩)); (case aO => exact ((Kd.N_nil _ _ _ _ (fun k_ => ((P0_2_ k_ ∨ P0_4_ k_) ∨ w.heap.size ≤ k_) ∧ k_ ≠ gb509)))); (case aS => exact (bZ_ (bq1_ HB GE509))); (case aL => have := LMc54.out; omega); intro v539 w61 ho hb hg hat; rw [← Ny538.out] at ho; have n0_ := Az_.mk (Kd.V_afterv (Kd.V_apart_nil (vq_ HO0_2)) hg hat); have n1_ := Az_.mk (Kd.V_afterv (Kd.V_apart_nil (vq_ HO0_4)) hg hat); have n2_ := Az_.mk (blk_grown (g := gb509) (o := .cells #[.bool a0_0, .int .i64 a0_1, .slice A0_2 l0_2.length c0_2, .int .i64 a0_3, .slice A0_4 l0_4.length c0_4] 81 (0, 0)) (kq_ BK509) hg (by simp [Value.ownBlock])); have n3_ := Az_.mk (hb); have n4_ := Az_.mk (ho); clear HO0_2; clear HO0_4; clear BK509; clear HB; clear HO537; have HO0_2 := n0_; have HO0_4 := n1_; have BK509 := n2_; have HB := n3_; have HO540 := n4_; clear n0_ n1_ n2_ n3_ n4_; clear ho hb hg hat))
     go_ret
     exact ⟨_, by first | rfl | (simp [yad_, yac_] <;> rfl) | (simp [*, yad_, yac_] <;> rfl), by (with_reducible repeat (first | apply Kd.N_alloc | apply Kd.N_drewN | apply Kd.N_drew)); exact Kd.N_mono HO540.out (fun _ hk => hk.1), bq1_ HB GE509⟩
    ·rw [if_neg c54] at H
     exact absurd H (by simp)
   ·rw [if_neg c53] at H
    have c53b0 : (t510 == 2) = false := beq_eq_false_iff_ne.mpr c53
    have c53b1 : (t510 != 2) = true := bne_iff_ne.mpr c53
    obtain rfl := Option.some.inj H
    go_enter Try.func69, Try.ntmps69
    go_wp2_with (first | ((with_reducible refine yag_ (N := 1) rfl ?_); refine yah_ ?hg (N := 1) ?hd (cs := #[.bool a0_0, .int .i64 a0_1, .slice A0_2 l0_2.length c0_2, .int .i64 a0_3, .slice A0_4 l0_4.length c0_4]) (t := 81) ?hr ?_; (case hd => rfl); (case hg => rfl); (case hr => exact rq_); intro gb509 hg w63 hbox hb; replace HO0_2 := Az_.mk (Kd.V_below (Kd.V_elderB (vq_ HO0_2) gb509 (Nat.le_of_eq hg.symm)) hb); replace HO0_4 := Az_.mk (Kd.V_below (Kd.V_elderB (vq_ HO0_4) gb509 (Nat.le_of_eq hg.symm)) hb); have BK509 := Az_.mk (hbox); have GW509 := Az_.mk ((by rw [hg]; exact (bZ_ (bq_ HB)) : w.heap.size ≤ gb509)); have GE509 := Az_.mk ((by rw [hg]; exact (bZ_ (bq_ HB)) : w.heap.size ≤ gb509)); replace HB := Az_.mk (bT_ (bq_ HB) hb); clear hb hbox hg; obtain ⟨hcz64_0, hcz64_1, hcz64_2, hcz64_3, hcz64_4, hfz64_0, hfz64_1, hfz64_2, hfz64_3, hfz64_4⟩ := cz5_ BK509) | ((with_reducible refine yaf_ (f := 44) rfl ?_); refine goesL_ (some 9) rfl rfl Try.func44 (by kernel_rfl) rfl #[.agg #[.int .i64 a0_1, .slice A0_2 l0_2.length c0_2], .agg #[.int .i64 a0_3, .slice A0_4 l0_4.length c0_4]] rfl mq_ ?_; (with_reducible refine (soritesref10_Compare.calls k a0_1 _ _ l0_2 a0_3 _ _ l0_4 t510 _ ?side1 ?side2 ?side3 ?side4 A2.out).mono ?_); (case side1 => repeat (first | exact (Kd.V_reads' HO0_2.out).2.2 | (with_reducible refine Kd.C_alloc ?_ _) | (with_reducible refine Kd.C_drewN ?_ _) | (with_reducible refine Kd.C_drew ?_))); (case side2 => exact (Kd.V_reads' HO0_2.out).2.1); (case side3 => repeat (first | exact (Kd.V_reads' HO0_4.out).2.2 | (with_reducible refine Kd.C_alloc ?_ _) | (with_reducible refine Kd.C_drewN ?_ _) | (with_reducible refine Kd.C_drew ?_))); (case side4 => exact (Kd.V_reads' HO0_4.out).2.1); rintro e w65 ⟨rfl, hb⟩; refine ⟨_, rfl, ?_⟩; replace HO0_2 := Az_.mk (Kd.V_below (vq_ HO0_2) hb); replace HO0_4 := Az_.mk (Kd.V_below (vq_ HO0_4) hb); replace BK509 := kb_ BK509 hb; replace HB := Az_.mk (bT_ (bq1_ HB GE509) hb); (try clear hb); (try clear hb2); (try clear hk); (try clear hi)))
    go_ret
    exact ⟨_, by first | rfl | (simp [yad_, yac_] <;> rfl) | (simp [*, yad_, yac_] <;> rfl), by first | exact Kd.R_nil _ _ _ _ _ | exact Kd.N_nil _ _ _ _ _ | exact Kd.V_nil _ _ _ _ _ | exact Kd.Q_nil _ _ _ _ _ | exact Kd.S_nil _ _ _ _ _, bq1_ HB GE509⟩
end
section
structure LitP (W : World) (x : S78) (A : Option Addr) (c : Nat) (B : Option Addr) (e : Nat) : Prop where
 l1 : x.f1.f1.length ≤ c
 c1 : k30.C W A x.f1.f1.length x.f1.f1
 l2 : x.f2.f1.length ≤ e
 c2 : k30.C W B x.f2.f1.length x.f2.f1
theorem LitP.below {W W' : World} {x : S78} {A B : Option Addr} {c e : Nat} (h : LitP W x A c B e) (hb : Below W.heap.size W W') : LitP W' x A c B e := ⟨h.l1, Kd.C_below h.c1 hb, h.l2, Kd.C_below h.c2 hb⟩
structure LitD (W : World) (x : S81) (A : Option Addr) (c : Nat) (B : Option Addr) (e : Nat) : Prop where
 l1 : x.f1.f1.length ≤ c
 c1 : k24.C W A x.f1.f1.length x.f1.f1
 l2 : x.f2.f1.length ≤ e
 c2 : k24.C W B x.f2.f1.length x.f2.f1
theorem LitD.below {W W' : World} {x : S81} {A B : Option Addr} {c e : Nat} (h : LitD W x A c B e) (hb : Below W.heap.size W W') : LitD W' x A c B e := ⟨h.l1, Kd.C_below h.c1 hb, h.l2, Kd.C_below h.c2 hb⟩
theorem V30_of {W : World} {A : Option Addr} {c : Nat} {l : List S30} (h : k30.C W A l.length l) (hc : l.length ≤ c) : Kd.V k30 30 W W.heap.size (fun _ => True) (.slice A l.length c) l := Kd.V_mk hc (Kd.F_mono (F_old k30_heap h (Below.refl _ _)) (fun _ _ => trivial))
theorem V24_of {W : World} {A : Option Addr} {c : Nat} {l : List S24} (h : k24.C W A l.length l) (hc : l.length ≤ c) : Kd.V k24 24 W W.heap.size (fun _ => True) (.slice A l.length c) l := Kd.V_mk hc (Kd.F_mono (F_old k24_heap h (Below.refl _ _)) (fun _ _ => trivial))
theorem C_one {α : Type} (d : Kd α) {W : World} {g t : Nat} {x : α} {cs : List Value} (h : d.K W x cs) (hb : W.heap[g]? = some (.cells cs.toArray t (0, 0))) : d.C W (some ⟨g, 0, none⟩) 1 [x] := by
 refine ⟨rfl, by simp, fun _ => ⟨_, rfl, fun j p hj => ?_⟩⟩
 match j with
 | 0 =>
  simp at hj
  subst hj
  refine ⟨cs, d.K_len h, h, fun i u hi => ?_⟩
  rw [show (⟨g, 0, none⟩ : Addr).add (0 * d.sz + i) = ⟨g, i, none⟩ by simp [Addr.add_lit]]
  exact (yaa_ hb _).trans (by simpa using hi)
 | j + 1 => simp at hj
theorem litP_at {W : World} {g n : Nat} {l : List S78} (hC : k78.C W (some ⟨g, 0, none⟩) n l) (i : Nat) (hi : i < n) (x : S78) (hx : l[i]? = some x) : ∃ A c B e, LitP W x A c B e ∧ W.cell? ⟨g, i * 5, none⟩ = some (.bool x.f0) ∧ W.cell? ⟨g, i * 5 + 1, none⟩ = some (.int .i64 x.f1.f0) ∧ W.cell? ⟨g, i * 5 + 2, none⟩ = some (.slice A x.f1.f1.length c) ∧ W.cell? ⟨g, i * 5 + 3, none⟩ = some (.int .i64 x.f2.f0) ∧ W.cell? ⟨g, i * 5 + 4, none⟩ = some (.slice B x.f2.f1.length e) := by
 obtain ⟨ad, A2, c2, A4, c4, e, x0, x1, x2, x3, x4, l2, g2, l4, g4⟩ := at_T78 hC (i : Int) (by omega) (by omega)
 injection e with e
 subst e
 have hrd : rd_T78 l (i : Int) = x := by unfold rd_T78; rw [Int.toNat_natCast, List.getD_eq_getElem?_getD, hx]; rfl
 rw [hrd] at x0 x1 x2 x3 x4 l2 g2 l4 g4
 rw [Int.toNat_natCast, add_plain] at x0 x1 x2 x3 x4
 exact ⟨A2, c2, A4, c4, ⟨l2, g2, l4, g4⟩, x0, x1, x2, x3, x4⟩
theorem litP_keep {w4 w5 : World} {g0 cp base : Nat} {x : S78} {A B : Option Addr} {c e : Nat} (hR : Kd.R k78 78 w4 base (fun _ => True) (.slice (some ⟨g0, 0, none⟩) 1 cp) [x]) (hsame : ∀ k, base ≤ k → k < w4.heap.size → w5.heap[k]? = w4.heap[k]?)
  (y2 : w4.cell? ⟨g0, 2, none⟩ = some (.slice A x.f1.f1.length c)) (y4 : w4.cell? ⟨g0, 4, none⟩ = some (.slice B x.f2.f1.length e)) : LitP w5 x A c B e := by
 have hb := Kd.R_mono (ok' := fun k => base ≤ k) (Kd.R_bound hR) (fun k hk => hk.2.1)
 have h5 := Kd.R_step hb hsame
 have hg : base ≤ g0 := Kd.R_base hR g0 rfl
 have hl : g0 < w4.heap.size := Kd.R_lt hR g0 rfl
 have hc : ∀ o, w5.cell? ⟨g0, o, none⟩ = w4.cell? ⟨g0, o, none⟩ := fun o => by
  unfold World.cell?
  rw [show w5.heap[(⟨g0, o, none⟩ : Addr).block]? = w4.heap[(⟨g0, o, none⟩ : Addr).block]? from hsame g0 hg hl]
 obtain ⟨A5, c5, B5, e5, L, _, _, z2, _, z4⟩ := litP_at (Kd.R_reads' h5).2.2 0 (by simp) x rfl
 rw [Nat.zero_mul, Nat.zero_add, hc] at z2 z4
 rw [y2] at z2
 rw [y4] at z4
 simp only [Option.some.injEq, Value.slice.injEq, true_and] at z2 z4
 obtain ⟨rfl, rfl⟩ := z2
 obtain ⟨rfl, rfl⟩ := z4
 exact L
set_option maxHeartbeats 4000000 in
set_option maxRecDepth 100000 in
theorem lit_calls {x : S81} (hx : ok x.f1 ∧ ok x.f2) {A B : Option Addr} {c e : Nat} {W : World} (h : LitD W x A c B e) :
  Calls Try.prog 64 #[.agg #[.bool x.f0, .int .i64 x.f1.f0, .slice A x.f1.f1.length c, .int .i64 x.f2.f0, .slice B x.f2.f1.length e]] W fun r w' => ∃ A' c' B' e', r = .returned (.agg #[.bool x.f0, .int .i64 x.f1.f0, .slice A' x.f1.f1.length c', .int .i64 x.f2.f0, .slice B' x.f2.f1.length e']) ∧ LitP w' x A' c' B' e' ∧ Below W.heap.size W w' := by
 obtain ⟨k, hk⟩ := (Of11_spec [x] (by simp) (fun y hy => by simp at hy; rw [hy]; exact hx)).rounds
 obtain ⟨W1, hW1⟩ : ∃ W1, W1 = W.alloc (.cells #[.bool x.f0, .int .i64 x.f1.f0, .slice A x.f1.f1.length c, .int .i64 x.f2.f0, .slice B x.f2.f1.length e] 81) := ⟨_, rfl⟩
 obtain ⟨W2, hW2⟩ : ∃ W2, W2 = W1.alloc (.cells #[.bool false, .int .i64 0, .slice none 0 0, .int .i64 0, .slice none 0 0] 78) := ⟨_, rfl⟩
 obtain ⟨W3, hW3⟩ : ∃ W3, W3 = W2.alloc (.cells #[.bool x.f0, .int .i64 x.f1.f0, .slice A x.f1.f1.length c, .int .i64 x.f2.f0, .slice B x.f2.f1.length e] 81) := ⟨_, rfl⟩
 have s1 : W1.heap.size = W.heap.size + 1 := by rw [hW1]; simp
 have s2 : W2.heap.size = W.heap.size + 2 := by rw [hW2]; simp [s1]
 have s3 : W3.heap.size = W.heap.size + 3 := by rw [hW3]; simp [s2]
 have b1 : Below W.heap.size W W1 := hW1 ▸ bA_ (Below.refl _ _) _
 have b2 : Below W.heap.size W W2 := hW2 ▸ bA_ b1 _
 have b3 : Below W.heap.size W W3 := hW3 ▸ bA_ b2 _
 have h3 := h.below b3
 have hrow : W3.heap[W.heap.size + 2]? = some (.cells #[.bool x.f0, .int .i64 x.f1.f0, .slice A x.f1.f1.length c, .int .i64 x.f2.f0, .slice B x.f2.f1.length e] 81 (0, 0)) := by rw [hW3, ← s2]; exact heap_alloc_new _ _
 have hbx2 : W2.heap[W.heap.size + 1]? = some (.cells #[.bool false, .int .i64 0, .slice none 0 0, .int .i64 0, .slice none 0 0] 78 (0, 0)) := by rw [hW2, ← s1]; exact heap_alloc_new _ _
 have hbx3 : W3.heap[W.heap.size + 1]? = some (.cells #[.bool false, .int .i64 0, .slice none 0 0, .int .i64 0, .slice none 0 0] 78 (0, 0)) := kB_ hbx2 (hW3 ▸ bA_ (Below.refl _ _) _)
 have hC3 : k81.C W3 (some ⟨W.heap.size + 2, 0, none⟩) 1 [x] := C_one k81 (k81_mk W3 x h3.l1 h3.c1 h3.l2 h3.c2) hrow
 have hcl := Az_.mk (soriteslaw11_Of.calls k (some ⟨W.heap.size + 2, 0, none⟩) 1 [x] [x] W3 hC3 (Nat.le_refl 1) hk)
 have HB3 := Az_.mk (And.intro b3 (And.intro hbx3 s3))
 clear h hk h3 hrow hbx2 hbx3 hC3 b1 b2 b3 s1 s2 s3
 rw [hW3, hW2, hW1] at hcl
 have HW := Az_.mk (hW3.trans (by rw [hW2, hW1]) : W3 = _)
 clear hW3 hW2 hW1
 go_enter Try.func64, Try.ntmps64
 go_wp2_with (go_at_call 56; refine hcl.out.mono ?_; rintro r w4 ⟨v0, rfl, hR, hb⟩; rw [← HW.out] at hR hb; obtain ⟨g0, cp, hv0, hg0, hg0l, _⟩ := Kd.R_form hR (by simp); subst hv0; have HR := Az_.mk hR; have HB4 := Az_.mk hb; have HG := Az_.mk hg0; clear hg0 hg0l; obtain ⟨A', c', B', e', L', y0, y1, y2, y3, y4⟩ := litP_at (Kd.R_reads' hR).2.2 0 (by simp) x rfl; rw [Nat.zero_mul] at y0 y1 y2 y3 y4; rw [Nat.zero_add] at y1 y2 y3 y4; have Y2 := Az_.mk y2; have Y4 := Az_.mk y4; have m0 := kB_ HB3.out.2.1 hb; have m1 := blk_set m0 0 (.bool x.f0); have m2 := blk_set m1 1 (.int .i64 x.f1.f0); have m3 := blk_set m2 2 (.slice A' x.f1.f1.length c'); have m4 := blk_set m3 3 (.int .i64 x.f2.f0); have m5 := Az_.mk (blk_set m4 4 (.slice B' x.f2.f1.length e')); have r0 : w4.cell? ⟨W.heap.size + 1, 0, none⟩ = some (.bool false) := (yaa_ m0 0).trans rfl; have r1 := (yaa_ m1 1).trans rfl; have r2 := (yaa_ m2 2).trans rfl; have r3 := (yaa_ m3 3).trans rfl; have r4 := (yaa_ m4 4).trans rfl; have q1 : w4.cell? ⟨W.heap.size + 1, 1, none⟩ = some (.int .i64 0) := (yaa_ m0 1).trans rfl; have q2 : w4.cell? ⟨W.heap.size + 1, 2, none⟩ = some (.slice none 0 0) := (yaa_ m0 2).trans rfl; have q3 : w4.cell? ⟨W.heap.size + 1, 3, none⟩ = some (.int .i64 0) := (yaa_ m0 3).trans rfl; have q4 : w4.cell? ⟨W.heap.size + 1, 4, none⟩ = some (.slice none 0 0) := (yaa_ m0 4).trans rfl; have z0 := yai_ m0 0; have z1 := yai_ m1 1; have z2 := yai_ m2 2; have z3 := yai_ m3 3; have z4 := yai_ m4 4; have z1' := yai_ m0 1; have z2' := yai_ m0 2; have z3' := yai_ m0 3; have z4' := yai_ m0 4; clear hR hb L' m0 m1 m2 m3 m4)
 refine bodyPost_ret (results_cell_row rfl _ _ (W.heap.size + 1) 78 #[.bool x.f0, .int .i64 x.f1.f0, .slice A' x.f1.f1.length c', .int .i64 x.f2.f0, .slice B' x.f2.f1.length e'] (0, 0) _ rfl m5.out Try.underlying78 rfl (by kernel_rfl)) rfl ?_
 have hs3 := HB3.out.2.2
 refine ⟨A', c', B', e', rfl, litP_keep HR.out (fun k hk hl => ?_) Y2.out Y4.out, ?_⟩
 ·have hne : k ≠ W.heap.size + 1 := by omega
  rw [Below.heap_setCell _ _ _ k hne, Below.heap_setCell _ _ _ k hne, Below.heap_setCell _ _ _ k hne, Below.heap_setCell _ _ _ k hne, Below.heap_setCell _ _ _ k hne]
 ·have hb := HB3.out.1.trans (HB4.out.mono HB3.out.1.size)
  exact ((((hb.setCell (p := ⟨W.heap.size + 1, 0, none⟩) (Nat.le_succ _) _).setCell (p := ⟨W.heap.size + 1, 1, none⟩) (Nat.le_succ _) _).setCell (p := ⟨W.heap.size + 1, 2, none⟩) (Nat.le_succ _) _).setCell (p := ⟨W.heap.size + 1, 3, none⟩) (Nat.le_succ _) _).setCell (p := ⟨W.heap.size + 1, 4, none⟩) (Nat.le_succ _) _
theorem Terms_calls {x : S78} {A B : Option Addr} {c e : Nat} {W : World} (h : LitP W x A c B e) :
  Calls Try.prog 63 #[.agg #[.bool x.f0, .int .i64 x.f1.f0, .slice A x.f1.f1.length c, .int .i64 x.f2.f0, .slice B x.f2.f1.length e]] W fun r w' => ∃ A' c', r = .returned (.slice A' (termsT x).length c') ∧ (termsT x).length ≤ c' ∧ k30.C w' A' (termsT x).length (termsT x) ∧ Below W.heap.size W w' := by
 refine (order_Terms.calls x.f0 x.f1.f0 (fun _ => True) A c x.f1.f1 x.f2.f0 (fun _ => True) B e x.f2.f1 _ W (V30_of h.c1 h.l1) (V30_of h.c2 h.l2) (OTerms_of x)).mono ?_
 rintro r w' ⟨v, rfl, hN, hb⟩
 obtain ⟨A', c', rfl, hc, hF⟩ := Kd.N_V (base' := 0) hN
 exact ⟨A', c', rfl, hc, Kd.F_now hF, hb⟩
theorem RTerms_calls {x : S81} {A B : Option Addr} {c e : Nat} {W : World} (h : LitD W x A c B e) :
  Calls Try.prog 65 #[.agg #[.bool x.f0, .int .i64 x.f1.f0, .slice A x.f1.f1.length c, .int .i64 x.f2.f0, .slice B x.f2.f1.length e]] W fun r w' => ∃ A' c', r = .returned (.slice A' (termsT x).length c') ∧ (termsT x).length ≤ c' ∧ k24.C w' A' (termsT x).length (termsT x) ∧ Below W.heap.size W w' := by
 refine (soritesref14_Terms.calls x.f0 x.f1.f0 (fun _ => True) A c x.f1.f1 x.f2.f0 (fun _ => True) B e x.f2.f1 _ W (V24_of h.c1 h.l1) (V24_of h.c2 h.l2) (RTerms_of x)).mono ?_
 rintro r w' ⟨v, rfl, hN, hb⟩
 obtain ⟨A', c', rfl, hc, hF⟩ := Kd.N_V (base' := 0) hN
 exact ⟨A', c', rfl, hc, Kd.F_now hF, hb⟩
theorem GrP_calls {x y : S78} (hx : fitL x) (hy : fitL y) {A B A' B' : Option Addr} {c e c' e' : Nat} {W : World} (h : LitP W x A c B e) (h' : LitP W y A' c' B' e') :
  Calls Try.prog 66 #[.agg #[.bool x.f0, .int .i64 x.f1.f0, .slice A x.f1.f1.length c, .int .i64 x.f2.f0, .slice B x.f2.f1.length e], .agg #[.bool y.f0, .int .i64 y.f1.f0, .slice A' y.f1.f1.length c', .int .i64 y.f2.f0, .slice B' y.f2.f1.length e']] W fun r w' => r = .returned (.bool (grL x y)) ∧ Below W.heap.size W w' :=
 order_Greater.calls x.f0 x.f1.f0 A c x.f1.f1 x.f2.f0 B e x.f2.f1 y.f0 y.f1.f0 A' c' y.f1.f1 y.f2.f0 B' e' y.f2.f1 _ W h.c1 h.l1 h.c2 h.l2 h'.c1 h'.l1 h'.c2 h'.l2 (OGreater_of hx hy)
theorem GrD_calls {x y : S81} (hx : fitL x) (hy : fitL y) {A B A' B' : Option Addr} {c e c' e' : Nat} {W : World} (h : LitD W x A c B e) (h' : LitD W y A' c' B' e') :
  Calls Try.prog 67 #[.agg #[.bool x.f0, .int .i64 x.f1.f0, .slice A x.f1.f1.length c, .int .i64 x.f2.f0, .slice B x.f2.f1.length e], .agg #[.bool y.f0, .int .i64 y.f1.f0, .slice A' y.f1.f1.length c', .int .i64 y.f2.f0, .slice B' y.f2.f1.length e']] W fun r w' => r = .returned (.bool (grL x y)) ∧ Below W.heap.size W w' := by
 obtain ⟨k, hk⟩ := (RGreaterL_spec hx hy).rounds
 exact soritesref14_Greater.calls k x.f0 x.f1.f0 A c x.f1.f1 x.f2.f0 B e x.f2.f1 y.f0 y.f1.f0 A' c' y.f1.f1 y.f2.f0 B' e' y.f2.f1 _ W h.c1 h.l1 h.c2 h.l2 h'.c1 h'.l1 h'.c2 h'.l2 hk
theorem To_calls {x : S30} (hx : fit x) {A : Option Addr} {c : Nat} {W : World} (hA : k30.C W A x.f1.length x.f1) (hc : x.f1.length ≤ c) :
  Calls Try.prog 29 #[.agg #[.int .i64 x.f0, .slice A x.f1.length c]] W fun r w' => ∃ A' c', r = .returned (.agg #[.int .i64 (cloneT x).f0, .slice A' (cloneT x).f1.length c']) ∧ (cloneT x).f1.length ≤ c' ∧ k24.C w' A' (cloneT x).f1.length (cloneT x).f1 ∧ Below W.heap.size W w' := by
 obtain ⟨k, hk⟩ := (To_spec x hx).rounds
 refine (soriteslaw06_To.calls k x.f0 A c x.f1 _ _ W hA hc hk).mono ?_
 rintro r w' ⟨v, rfl, hR, hb⟩
 obtain ⟨A', c', rfl, hc, hF⟩ := Kd.R_V (base' := 0) hR
 exact ⟨A', c', rfl, hc, Kd.F_now hF, hb⟩
end
section
theorem kcmp_flip (a b : S30) : kcmp b a = if kcmp a b = 2 then 2 else - kcmp a b := by
 unfold kcmp
 rw [cmp_anti a b]
 by_cases h0 : cmpT a b = 0
 ·simp [h0]
 ·have h0' : ¬ (- cmpT a b = 0) := by omega
  rw [if_neg h0, if_neg h0']
  cases h1 : gtT a b with
  | true => rw [gt_asymm a b h1]; simp
  | false =>
   cases h2 : gtT b a <;> simp
def orientL (a b : S30) : List (List S30) := (if kcmp a b < 1 then [] else [[a, b]]) ++ (if kcmp b a < 1 then [] else [[b, a]])
theorem orientL_len (a b : S30) : (orientL a b).length = left2n (decide (kcmp a b < 1)) (decide (kcmp b a < 1)) := by
 unfold orientL left2n
 by_cases h1 : kcmp a b < 1 <;> by_cases h2 : kcmp b a < 1 <;> simp [h1, h2]
theorem ROrient_spec (n : Bool) (a b : S30) (ha : fit a) (hb : fit b) : Ev (fun k => soritesref14_Orient.f k n a.f0 a.f1 b.f0 b.f1) (orientL a b) := by
 unfold soritesref14_Orient.f
 refine Ev.bind (RCompare_spec a b ha hb) ?_
 unfold orientL
 rw [kcmp_flip a b]
 rcases kcmp_range a b with h | h | h | h <;> rw [h] <;> simp <;> (cases a; cases b; exact ⟨0, fun _ _ => rfl⟩)
theorem ROrient_calls {x : S81} (hx : fitL x) {A B : Option Addr} {c e : Nat} {W : World} (h : LitD W x A c B e) :
  Calls Try.prog 69 #[.agg #[.bool x.f0, .int .i64 x.f1.f0, .slice A x.f1.f1.length c, .int .i64 x.f2.f0, .slice B x.f2.f1.length e]] W fun r w' => ∃ A' c', r = .returned (.slice A' (orientL x.f1 x.f2).length c') ∧ (orientL x.f1 x.f2).length ≤ c' ∧ (Kd.slice 24 k24).C w' A' (orientL x.f1 x.f2).length (orientL x.f1 x.f2) ∧ Below W.heap.size W w' := by
 obtain ⟨k, hk⟩ := (ROrient_spec x.f0 x.f1 x.f2 hx.1 hx.2).rounds
 refine (soritesref14_Orient.calls k x.f0 x.f1.f0 (fun _ => True) A c x.f1.f1 x.f2.f0 (fun _ => True) B e x.f2.f1 _ W (V24_of h.c1 h.l1) (V24_of h.c2 h.l2) hk).mono ?_
 rintro r w' ⟨v, rfl, hN, hb⟩
 obtain ⟨A', c', rfl, hc, hF⟩ := Kd.N_V (base' := 0) hN
 exact ⟨A', c', rfl, hc, Kd.F_now hF, hb⟩
theorem Orient_calls {x : S78} (hx : fitL x) {A B : Option Addr} {c e : Nat} {W : World} (h : LitP W x A c B e) :
  Calls Try.prog 68 #[.agg #[.bool x.f0, .int .i64 x.f1.f0, .slice A x.f1.f1.length c, .int .i64 x.f2.f0, .slice B x.f2.f1.length e]] W fun r w' => ∃ g cs, r = .returned (.slice (some ⟨g, 0, none⟩) (orientL x.f1 x.f2).length 2) ∧ W.heap.size ≤ g ∧ Below W.heap.size W w' ∧ w'.heap[g]? = some (.cells cs 89 (0, 0)) ∧ cs.size = 8 ∧
   ∀ t, t < (orientL x.f1 x.f2).length * 4 → cs[t]? = (left2 (decide (kcmp x.f1 x.f2 < 1)) (decide (kcmp x.f2 x.f1 < 1)) [.int .i64 x.f1.f0, .slice A x.f1.f1.length c, .int .i64 x.f2.f0, .slice B x.f2.f1.length e] [.int .i64 x.f2.f0, .slice B x.f2.f1.length e, .int .i64 x.f1.f0, .slice A x.f1.f1.length c])[t]? := by
 obtain ⟨K1, h1⟩ := KCompare_spec x.f1 x.f2 hx.1 hx.2
 obtain ⟨K2, h2⟩ := KCompare_spec x.f2 x.f1 hx.2 hx.1
 rw [orientL_len]
 exact Orient_P (K1 + K2) x.f0 x.f1 x.f2 A B c e _ _ W h.c1 h.l1 h.c2 h.l2 (h1 _ (by omega)) (h2 _ (by omega))
theorem Same_calls {x y : S24} (hx : fit x) {A B : Option Addr} {c e : Nat} {W : World} (hA : k24.C W A x.f1.length x.f1) (hc : x.f1.length ≤ c) (hB : k24.C W B y.f1.length y.f1) (he : y.f1.length ≤ e) :
  Calls Try.prog 28 #[.agg #[.int .i64 x.f0, .slice A x.f1.length c], .agg #[.int .i64 y.f0, .slice B y.f1.length e]] W fun r w' => r = .returned (.bool (cmpT x y == 0)) ∧ Below W.heap.size W w' := by
 obtain ⟨k, hk⟩ := (RSame_spec x y hx).rounds
 exact soritesref06_Same.calls k x.f0 A c x.f1 y.f0 B e y.f1 _ W hA hc hB he hk
theorem litD_at {W : World} {A : Option Addr} {l : List S81} (hC : k81.C W A l.length l) (k : Nat) (x : S81) (hk : l[k]? = some x) : ∃ ad B c D e, A = some ad ∧ W.cell? (ad.add (k * 5)) = some (.bool x.f0) ∧ W.cell? ⟨(ad.add (k * 5)).block, (ad.add (k * 5)).off + 1, none⟩ = some (.int .i64 x.f1.f0) ∧ W.cell? ⟨(ad.add (k * 5)).block, (ad.add (k * 5)).off + 2, none⟩ = some (.slice B x.f1.f1.length c) ∧ W.cell? ⟨(ad.add (k * 5)).block, (ad.add (k * 5)).off + 3, none⟩ = some (.int .i64 x.f2.f0) ∧ W.cell? ⟨(ad.add (k * 5)).block, (ad.add (k * 5)).off + 4, none⟩ = some (.slice D x.f2.f1.length e) ∧ LitD W x B c D e := by
 have hl := (List.getElem?_eq_some_iff.1 hk).1
 obtain ⟨ad, A2, c2, A4, c4, h0, x0, x1, x2, x3, x4, l2, g2, l4, g4⟩ := at_T81 hC (k : Int) (by omega) (by omega)
 have hrd : rd_T81 l (k : Int) = x := by unfold rd_T81; rw [Int.toNat_natCast, List.getD_eq_getElem?_getD, hk]; rfl
 rw [hrd] at x0 x1 x2 x3 x4 l2 g2 l4 g4
 rw [Int.toNat_natCast] at x0 x1 x2 x3 x4
 exact ⟨ad, A2, c2, A4, c4, h0, x0, x1, x2, x3, x4, ⟨l2, g2, l4, g4⟩⟩
end
section
set_option maxHeartbeats 4000000 in
set_option maxRecDepth 100000 in
theorem OrderTells_r22 {id : Nat} {a : Act} {w : World} {Q : Exit → Act → World → Prop} {ad ta : Addr} {ln cc tc te k : Nat} {tA : Option Addr} {tl : List S24} {cf : Int} {cs : List S24} {xb : Bool} {xi xj : Int} {xA xB : Option Addr} {xn xc xm xd : Nat}
  (hr : regionOk #[{ dst := some 84, op := Op.move (Operand.tmp 12), type := 28, pos := "law.go:51", after := #[], guard := none }, { dst := some 85, op := Op.call { callee := Callee.builtin Builtin.len, args := #[Operand.tmp 84], argTypes := #[28] }, type := 3, pos := "law.go:51", after := #[{ on := 0, ground := Ground.data }], guard := none }, { dst := some 86, op := Op.move (Operand.tmp 2), type := 65, pos := "law.go:51", after := #[], guard := none }, { dst := some 87, op := Op.move (Operand.tmp 11), type := 3, pos := "law.go:51", after := #[], guard := none }, { dst := some 88, op := Op.indexAddr 65 (Operand.tmp 86) (Operand.tmp 87), type := 0, pos := "law.go:51", after := #[{ on := 2, ground := Ground.data }, { on := 3, ground := Ground.data }], guard := none }, { dst := some 89, op := Op.load 81 (Operand.tmp 88), type := 81, pos := "law.go:51", after := #[{ on := 4, ground := Ground.data }], guard := none }, { dst := some 90, op := Op.call { callee := Callee.value (Operand.func 65), args := #[Operand.tmp 89], argTypes := #[81] }, type := 22, pos := "law.go:51", after := #[{ on := 5, ground := Ground.data }], guard := none }, { dst := some 91, op := Op.call { callee := Callee.builtin Builtin.len, args := #[Operand.tmp 90], argTypes := #[22] }, type := 3, pos := "law.go:51", after := #[{ on := 6, ground := Ground.data }], guard := none }, { dst := some 92, op := Op.binOp BinOp.neq 3 (Operand.tmp 85) (Operand.tmp 91) 3, type := 4, pos := "law.go:51", after := #[{ on := 1, ground := Ground.data }, { on := 7, ground := Ground.data }], guard := none }, { dst := some 93, op := Op.move (Operand.tmp 92), type := 4, pos := "law.go:51", after := #[{ on := 8, ground := Ground.data }, { on := 6, ground := Ground.chain }], guard := none }, { dst := some 94, op := Op.move (Operand.tmp 12), type := 28, pos := "law.go:51", after := #[{ on := 9, ground := Ground.guard }], guard := some (9, false) }, { dst := some 95, op := Op.indexAddr 28 (Operand.tmp 94) (Operand.const (Value.int IntKind.i64 0)), type := 0, pos := "law.go:51", after := #[{ on := 10, ground := Ground.data }, { on := 9, ground := Ground.guard }], guard := some (9, false) }, { dst := some 96, op := Op.load 30 (Operand.tmp 95), type := 30, pos := "law.go:51", after := #[{ on := 11, ground := Ground.data }, { on := 9, ground := Ground.guard }], guard := some (9, false) }, { dst := some 97, op := Op.call { callee := Callee.value (Operand.func 29), args := #[Operand.tmp 96], argTypes := #[30] }, type := 24, pos := "law.go:51", after := #[{ on := 12, ground := Ground.data }, { on := 9, ground := Ground.chain }, { on := 9, ground := Ground.guard }], guard := some (9, false) }, { dst := some 98, op := Op.move (Operand.tmp 2), type := 65, pos := "law.go:51", after := #[{ on := 9, ground := Ground.guard }], guard := some (9, false) }, { dst := some 99, op := Op.move (Operand.tmp 11), type := 3, pos := "law.go:51", after := #[{ on := 9, ground := Ground.guard }], guard := some (9, false) }, { dst := some 100, op := Op.indexAddr 65 (Operand.tmp 98) (Operand.tmp 99), type := 0, pos := "law.go:51", after := #[{ on := 14, ground := Ground.data }, { on := 15, ground := Ground.data }, { on := 9, ground := Ground.guard }], guard := some (9, false) }, { dst := some 101, op := Op.fieldAddr 81 (Operand.tmp 100) 1, type := 0, pos := "law.go:51", after := #[{ on := 16, ground := Ground.data }, { on := 9, ground := Ground.guard }], guard := some (9, false) }, { dst := some 102, op := Op.load 24 (Operand.tmp 101), type := 24, pos := "law.go:51", after := #[{ on := 17, ground := Ground.data }, { on := 9, ground := Ground.guard }], guard := some (9, false) }, { dst := some 103, op := Op.call { callee := Callee.value (Operand.func 28), args := #[Operand.tmp 97, Operand.tmp 102], argTypes := #[24, 24] }, type := 4, pos := "law.go:51", after := #[{ on := 13, ground := Ground.data }, { on := 18, ground := Ground.data }, { on := 13, ground := Ground.chain }, { on := 9, ground := Ground.guard }], guard := some (9, false) }, { dst := some 104, op := Op.unOp UnOp.not 4 (Operand.tmp 103), type := 4, pos := "law.go:51", after := #[{ on := 19, ground := Ground.data }, { on := 9, ground := Ground.guard }], guard := some (9, false) }, { dst := some 105, op := Op.pick (Operand.tmp 93) (Operand.const (Value.bool true)) (Operand.tmp 104), type := 4, pos := "law.go:51", after := #[{ on := 9, ground := Ground.data }, { on := 20, ground := Ground.data }], guard := none }] a.tmps.size = true)
  (hT2 : a.tmps.getD 2 undef = .slice (some ad) ln cc)
  (hT11 : a.tmps.getD 11 undef = .int .i64 (k : Int))
  (hT12 : a.tmps.getD 12 undef = .slice (some ta) tl.length tc)
  (hF6 : ∀ w1, Below w.heap.size w w1 → Calls Try.prog 65 #[.agg #[.bool xb, .int .i64 xi, .slice xA xn xc, .int .i64 xj, .slice xB xm xd]] w1 fun e w2 => ∃ u, e = .returned u ∧ RowTold k24 tl u w2 ∧ Below w1.heap.size w1 w2)
  (hF13 : ∀ w1, Below w.heap.size w w1 → Calls Try.prog 29 #[.agg #[.int .i64 xi, .slice tA xn te]] w1 fun e w2 => ∃ u, e = .returned u ∧ TermTold k24 cf cs u w2 ∧ Below w1.heap.size w1 w2)
  (hkl : k < ln) (hlc : ln ≤ cc) (htl : 0 < tl.length) (htc : tl.length ≤ tc)
  (hx0 : w.cell? (ad.add (k * 5)) = some (.bool xb))
  (hx1 : w.cell? ⟨(ad.add (k * 5)).block, (ad.add (k * 5)).off + 1, none⟩ = some (.int .i64 xi))
  (hx2 : w.cell? ⟨(ad.add (k * 5)).block, (ad.add (k * 5)).off + 2, none⟩ = some (.slice xA xn xc))
  (hx3 : w.cell? ⟨(ad.add (k * 5)).block, (ad.add (k * 5)).off + 3, none⟩ = some (.int .i64 xj))
  (hx4 : w.cell? ⟨(ad.add (k * 5)).block, (ad.add (k * 5)).off + 4, none⟩ = some (.slice xB xm xd))
  (ht0 : w.cell? ta = some (.int .i64 xi)) (ht1 : w.cell? ⟨ta.block, ta.off + 1, none⟩ = some (.slice tA xn te))
  (hS : ∀ (w1 : World) (A : Option Addr) (c : Nat), Below w.heap.size w w1 → cs.length ≤ c → k24.C w1 A cs.length cs → Calls Try.prog 28 #[.agg #[.int .i64 cf, .slice A cs.length c], .agg #[.int .i64 xi, .slice xA xn xc]] w1 fun e w2 => e = .returned (.bool true) ∧ Below w1.heap.size w1 w2)
  (hK : ∀ v w', Below w.heap.size w w' → v 21 = .bool false → Q .normal { tmps := layL [some 84, some 85, some 86, some 87, some 88, some 89, some 90, some 91, some 92, some 93, some 94, some 95, some 96, some 97, some 98, some 99, some 100, some 101, some 102, some 103, some 104, some 105] 0 v a.tmps, defers := a.defers } w') :
  (Code.region id #[{ dst := some 84, op := Op.move (Operand.tmp 12), type := 28, pos := "law.go:51", after := #[], guard := none }, { dst := some 85, op := Op.call { callee := Callee.builtin Builtin.len, args := #[Operand.tmp 84], argTypes := #[28] }, type := 3, pos := "law.go:51", after := #[{ on := 0, ground := Ground.data }], guard := none }, { dst := some 86, op := Op.move (Operand.tmp 2), type := 65, pos := "law.go:51", after := #[], guard := none }, { dst := some 87, op := Op.move (Operand.tmp 11), type := 3, pos := "law.go:51", after := #[], guard := none }, { dst := some 88, op := Op.indexAddr 65 (Operand.tmp 86) (Operand.tmp 87), type := 0, pos := "law.go:51", after := #[{ on := 2, ground := Ground.data }, { on := 3, ground := Ground.data }], guard := none }, { dst := some 89, op := Op.load 81 (Operand.tmp 88), type := 81, pos := "law.go:51", after := #[{ on := 4, ground := Ground.data }], guard := none }, { dst := some 90, op := Op.call { callee := Callee.value (Operand.func 65), args := #[Operand.tmp 89], argTypes := #[81] }, type := 22, pos := "law.go:51", after := #[{ on := 5, ground := Ground.data }], guard := none }, { dst := some 91, op := Op.call { callee := Callee.builtin Builtin.len, args := #[Operand.tmp 90], argTypes := #[22] }, type := 3, pos := "law.go:51", after := #[{ on := 6, ground := Ground.data }], guard := none }, { dst := some 92, op := Op.binOp BinOp.neq 3 (Operand.tmp 85) (Operand.tmp 91) 3, type := 4, pos := "law.go:51", after := #[{ on := 1, ground := Ground.data }, { on := 7, ground := Ground.data }], guard := none }, { dst := some 93, op := Op.move (Operand.tmp 92), type := 4, pos := "law.go:51", after := #[{ on := 8, ground := Ground.data }, { on := 6, ground := Ground.chain }], guard := none }, { dst := some 94, op := Op.move (Operand.tmp 12), type := 28, pos := "law.go:51", after := #[{ on := 9, ground := Ground.guard }], guard := some (9, false) }, { dst := some 95, op := Op.indexAddr 28 (Operand.tmp 94) (Operand.const (Value.int IntKind.i64 0)), type := 0, pos := "law.go:51", after := #[{ on := 10, ground := Ground.data }, { on := 9, ground := Ground.guard }], guard := some (9, false) }, { dst := some 96, op := Op.load 30 (Operand.tmp 95), type := 30, pos := "law.go:51", after := #[{ on := 11, ground := Ground.data }, { on := 9, ground := Ground.guard }], guard := some (9, false) }, { dst := some 97, op := Op.call { callee := Callee.value (Operand.func 29), args := #[Operand.tmp 96], argTypes := #[30] }, type := 24, pos := "law.go:51", after := #[{ on := 12, ground := Ground.data }, { on := 9, ground := Ground.chain }, { on := 9, ground := Ground.guard }], guard := some (9, false) }, { dst := some 98, op := Op.move (Operand.tmp 2), type := 65, pos := "law.go:51", after := #[{ on := 9, ground := Ground.guard }], guard := some (9, false) }, { dst := some 99, op := Op.move (Operand.tmp 11), type := 3, pos := "law.go:51", after := #[{ on := 9, ground := Ground.guard }], guard := some (9, false) }, { dst := some 100, op := Op.indexAddr 65 (Operand.tmp 98) (Operand.tmp 99), type := 0, pos := "law.go:51", after := #[{ on := 14, ground := Ground.data }, { on := 15, ground := Ground.data }, { on := 9, ground := Ground.guard }], guard := some (9, false) }, { dst := some 101, op := Op.fieldAddr 81 (Operand.tmp 100) 1, type := 0, pos := "law.go:51", after := #[{ on := 16, ground := Ground.data }, { on := 9, ground := Ground.guard }], guard := some (9, false) }, { dst := some 102, op := Op.load 24 (Operand.tmp 101), type := 24, pos := "law.go:51", after := #[{ on := 17, ground := Ground.data }, { on := 9, ground := Ground.guard }], guard := some (9, false) }, { dst := some 103, op := Op.call { callee := Callee.value (Operand.func 28), args := #[Operand.tmp 97, Operand.tmp 102], argTypes := #[24, 24] }, type := 4, pos := "law.go:51", after := #[{ on := 13, ground := Ground.data }, { on := 18, ground := Ground.data }, { on := 13, ground := Ground.chain }, { on := 9, ground := Ground.guard }], guard := some (9, false) }, { dst := some 104, op := Op.unOp UnOp.not 4 (Operand.tmp 103), type := 4, pos := "law.go:51", after := #[{ on := 19, ground := Ground.data }, { on := 9, ground := Ground.guard }], guard := some (9, false) }, { dst := some 105, op := Op.pick (Operand.tmp 93) (Operand.const (Value.bool true)) (Operand.tmp 104), type := 4, pos := "law.go:51", after := #[{ on := 9, ground := Ground.data }, { on := 20, ground := Ground.data }], guard := none }] true).wp Try.prog Q a w := by
 have hmx : Try.prog.follows .mixedOrders = true := by kernel_rfl
 refine region_detR 22 hmx hr (by kernel_rfl) ?_
 refine DetR.is (o := { dst := some 84, op := Op.move (Operand.tmp 12), type := 28, pos := "law.go:51", after := #[], guard := none }) (u := ?ux1) rfl (by decide) (fun T w' hb hd hB K hK => ?sx1) ?rx1
 case sx1 =>
  have e12 := (hB 12 (by kernel_rfl)).trans hT12
  rw [if_pos (yab_ _ rfl)]
  clear hd hB
  go_simp
  exact hK _ (Below.refl _ _)
 refine DetR.is (o := { dst := some 85, op := Op.call { callee := Callee.builtin Builtin.len, args := #[Operand.tmp 84], argTypes := #[28] }, type := 3, pos := "law.go:51", after := #[{ on := 0, ground := Ground.data }], guard := none }) (u := ?ux2) rfl (by decide) (fun T w' hb hd hB K hK => ?sx2) ?rx2
 case sx2 =>
  have e84 := hd 0 84 _ (by decide) (by kernel_rfl) rfl rfl
  replace e84 : T.getD 84 undef = _ := e84
  rw [if_pos (yab_ _ rfl)]
  clear hd hB
  go_simp
  exact hK _ (Below.refl _ _)
 refine DetR.is (o := { dst := some 86, op := Op.move (Operand.tmp 2), type := 65, pos := "law.go:51", after := #[], guard := none }) (u := ?ux3) rfl (by decide) (fun T w' hb hd hB K hK => ?sx3) ?rx3
 case sx3 =>
  have e2 := (hB 2 (by kernel_rfl)).trans hT2
  rw [if_pos (yab_ _ rfl)]
  clear hd hB
  go_simp
  exact hK _ (Below.refl _ _)
 refine DetR.is (o := { dst := some 87, op := Op.move (Operand.tmp 11), type := 3, pos := "law.go:51", after := #[], guard := none }) (u := ?ux4) rfl (by decide) (fun T w' hb hd hB K hK => ?sx4) ?rx4
 case sx4 =>
  have e11 := (hB 11 (by kernel_rfl)).trans hT11
  rw [if_pos (yab_ _ rfl)]
  clear hd hB
  go_simp
  exact hK _ (Below.refl _ _)
 refine DetR.is (o := { dst := some 88, op := Op.indexAddr 65 (Operand.tmp 86) (Operand.tmp 87), type := 0, pos := "law.go:51", after := #[{ on := 2, ground := Ground.data }, { on := 3, ground := Ground.data }], guard := none }) (u := .pointer (some (ad.add (k * 5)))) rfl (by decide) (fun T w' hb hd hB K hK => ?sx5) ?rx5
 case sx5 =>
  have e86 := hd 2 86 _ (by decide) (by kernel_rfl) rfl rfl
  replace e86 : T.getD 86 undef = _ := e86
  have e87 := hd 3 87 _ (by decide) (by kernel_rfl) rfl rfl
  replace e87 : T.getD 87 undef = _ := e87
  rw [if_pos (yab_ _ rfl)]
  clear hd hB
  go_simp
  exact hK _ (Below.refl _ _)
 refine DetR.is (o := { dst := some 89, op := Op.load 81 (Operand.tmp 88), type := 81, pos := "law.go:51", after := #[{ on := 4, ground := Ground.data }], guard := none }) (u := .agg #[.bool xb, .int .i64 xi, .slice xA xn xc, .int .i64 xj, .slice xB xm xd]) rfl (by decide) (fun T w' hb hd hB K hK => ?sx6) ?rx6
 case sx6 =>
  have e88 := hd 4 88 _ (by decide) (by kernel_rfl) rfl rfl
  replace e88 : T.getD 88 undef = _ := e88
  rw [if_pos (yab_ _ rfl)]
  have r0 := yae_ hb hx0
  have r1 := yae_ hb hx1
  have r2 := yae_ hb hx2
  have r3 := yae_ hb hx3
  have r4 := yae_ hb hx4
  clear hd hB
  go_simp
  exact hK _ (Below.refl _ _)
 refine DetR.cons (o := { dst := some 90, op := Op.call { callee := Callee.value (Operand.func 65), args := #[Operand.tmp 89], argTypes := #[81] }, type := 22, pos := "law.go:51", after := #[{ on := 5, ground := Ground.data }], guard := none }) (RowTold k24 tl) rfl (by decide) (RowTold.grows _ _) (fun T w' hb hd hB K hK => ?sx7) ?rx7
 case sx7 =>
  have e89 := hd 5 89 _ (by decide) (by kernel_rfl) rfl rfl
  replace e89 : T.getD 89 undef = _ := e89
  rw [if_pos (yab_ _ rfl)]
  have hcl := hF6 w' hb
  clear hd hB
  go_simp
  go_at_call 65
  refine hcl.mono ?_
  rintro e w2 ⟨u, rfl, h1, h2⟩
  exact hK _ _ h2 h1
 refine DetR.is (o := { dst := some 91, op := Op.call { callee := Callee.builtin Builtin.len, args := #[Operand.tmp 90], argTypes := #[22] }, type := 3, pos := "law.go:51", after := #[{ on := 6, ground := Ground.data }], guard := none }) (u := ?ux8) rfl (by decide) (fun T w' hb hd hB K hK => ?sx8) ?rx8
 case sx8 =>
  obtain ⟨A90, c90, e90, hl90, hC90⟩ := (hd 6 90 _ (by decide) (by kernel_rfl) rfl rfl)
  rw [if_pos (yab_ _ rfl)]
  clear hd hB
  go_simp
  exact hK _ (Below.refl _ _)
 refine DetR.is (o := { dst := some 92, op := Op.binOp BinOp.neq 3 (Operand.tmp 85) (Operand.tmp 91) 3, type := 4, pos := "law.go:51", after := #[{ on := 1, ground := Ground.data }, { on := 7, ground := Ground.data }], guard := none }) (u := .bool false) rfl (by decide) (fun T w' hb hd hB K hK => ?sx9) ?rx9
 case sx9 =>
  have e85 := hd 1 85 _ (by decide) (by kernel_rfl) rfl rfl
  replace e85 : T.getD 85 undef = _ := e85
  have e91 := hd 7 91 _ (by decide) (by kernel_rfl) rfl rfl
  replace e91 : T.getD 91 undef = _ := e91
  rw [if_pos (yab_ _ rfl)]
  clear hd hB
  go_simp
  exact hK _ (Below.refl _ _)
 refine DetR.is (o := { dst := some 93, op := Op.move (Operand.tmp 92), type := 4, pos := "law.go:51", after := #[{ on := 8, ground := Ground.data }, { on := 6, ground := Ground.chain }], guard := none }) (u := .bool false) rfl (by decide) (fun T w' hb hd hB K hK => ?sx10) ?rx10
 case sx10 =>
  have e92 := hd 8 92 _ (by decide) (by kernel_rfl) rfl rfl
  replace e92 : T.getD 92 undef = _ := e92
  rw [if_pos (yab_ _ rfl)]
  clear hd hB
  go_simp
  exact hK _ (Below.refl _ _)
 refine DetR.is (o := { dst := some 94, op := Op.move (Operand.tmp 12), type := 28, pos := "law.go:51", after := #[{ on := 9, ground := Ground.guard }], guard := some (9, false) }) (u := ?ux11) rfl (by decide) (fun T w' hb hd hB K hK => ?sx11) ?rx11
 case sx11 =>
  have e12 := (hB 12 (by kernel_rfl)).trans hT12
  have eg := hd 9 93 _ (by decide) (by kernel_rfl) rfl rfl
  replace eg : T.getD 93 undef = .bool false := eg
  rw [if_pos (yam_ 9 93 false rfl rfl eg)]
  clear eg
  clear hd hB
  go_simp
  exact hK _ (Below.refl _ _)
 refine DetR.is (o := { dst := some 95, op := Op.indexAddr 28 (Operand.tmp 94) (Operand.const (Value.int IntKind.i64 0)), type := 0, pos := "law.go:51", after := #[{ on := 10, ground := Ground.data }, { on := 9, ground := Ground.guard }], guard := some (9, false) }) (u := .pointer (some ta)) rfl (by decide) (fun T w' hb hd hB K hK => ?sx12) ?rx12
 case sx12 =>
  have e94 := hd 10 94 _ (by decide) (by kernel_rfl) rfl rfl
  replace e94 : T.getD 94 undef = _ := e94
  have eg := hd 9 93 _ (by decide) (by kernel_rfl) rfl rfl
  replace eg : T.getD 93 undef = .bool false := eg
  rw [if_pos (yam_ 9 93 false rfl rfl eg)]
  clear eg
  clear hd hB
  go_simp
  exact hK _ (Below.refl _ _)
 refine DetR.is (o := { dst := some 96, op := Op.load 30 (Operand.tmp 95), type := 30, pos := "law.go:51", after := #[{ on := 11, ground := Ground.data }, { on := 9, ground := Ground.guard }], guard := some (9, false) }) (u := .agg #[.int .i64 xi, .slice tA xn te]) rfl (by decide) (fun T w' hb hd hB K hK => ?sx13) ?rx13
 case sx13 =>
  have e95 := hd 11 95 _ (by decide) (by kernel_rfl) rfl rfl
  replace e95 : T.getD 95 undef = _ := e95
  have eg := hd 9 93 _ (by decide) (by kernel_rfl) rfl rfl
  replace eg : T.getD 93 undef = .bool false := eg
  rw [if_pos (yam_ 9 93 false rfl rfl eg)]
  clear eg
  have r0 := yae_ hb ht0
  have r1 := yae_ hb ht1
  clear hd hB
  go_simp
  exact hK _ (Below.refl _ _)
 refine DetR.cons (o := { dst := some 97, op := Op.call { callee := Callee.value (Operand.func 29), args := #[Operand.tmp 96], argTypes := #[30] }, type := 24, pos := "law.go:51", after := #[{ on := 12, ground := Ground.data }, { on := 9, ground := Ground.chain }, { on := 9, ground := Ground.guard }], guard := some (9, false) }) (TermTold k24 cf cs) rfl (by decide) (TermTold.grows _ _ _) (fun T w' hb hd hB K hK => ?sx14) ?rx14
 case sx14 =>
  have e96 := hd 12 96 _ (by decide) (by kernel_rfl) rfl rfl
  replace e96 : T.getD 96 undef = _ := e96
  have eg := hd 9 93 _ (by decide) (by kernel_rfl) rfl rfl
  replace eg : T.getD 93 undef = .bool false := eg
  rw [if_pos (yam_ 9 93 false rfl rfl eg)]
  clear eg
  have hcl := hF13 w' hb
  clear hd hB
  go_simp
  go_at_call 29
  refine hcl.mono ?_
  rintro e w2 ⟨u, rfl, h1, h2⟩
  exact hK _ _ h2 h1
 refine DetR.is (o := { dst := some 98, op := Op.move (Operand.tmp 2), type := 65, pos := "law.go:51", after := #[{ on := 9, ground := Ground.guard }], guard := some (9, false) }) (u := ?ux15) rfl (by decide) (fun T w' hb hd hB K hK => ?sx15) ?rx15
 case sx15 =>
  have e2 := (hB 2 (by kernel_rfl)).trans hT2
  have eg := hd 9 93 _ (by decide) (by kernel_rfl) rfl rfl
  replace eg : T.getD 93 undef = .bool false := eg
  rw [if_pos (yam_ 9 93 false rfl rfl eg)]
  clear eg
  clear hd hB
  go_simp
  exact hK _ (Below.refl _ _)
 refine DetR.is (o := { dst := some 99, op := Op.move (Operand.tmp 11), type := 3, pos := "law.go:51", after := #[{ on := 9, ground := Ground.guard }], guard := some (9, false) }) (u := ?ux16) rfl (by decide) (fun T w' hb hd hB K hK => ?sx16) ?rx16
 case sx16 =>
  have e11 := (hB 11 (by kernel_rfl)).trans hT11
  have eg := hd 9 93 _ (by decide) (by kernel_rfl) rfl rfl
  replace eg : T.getD 93 undef = .bool false := eg
  rw [if_pos (yam_ 9 93 false rfl rfl eg)]
  clear eg
  clear hd hB
  go_simp
  exact hK _ (Below.refl _ _)
 refine DetR.is (o := { dst := some 100, op := Op.indexAddr 65 (Operand.tmp 98) (Operand.tmp 99), type := 0, pos := "law.go:51", after := #[{ on := 14, ground := Ground.data }, { on := 15, ground := Ground.data }, { on := 9, ground := Ground.guard }], guard := some (9, false) }) (u := .pointer (some (ad.add (k * 5)))) rfl (by decide) (fun T w' hb hd hB K hK => ?sx17) ?rx17
 case sx17 =>
  have e98 := hd 14 98 _ (by decide) (by kernel_rfl) rfl rfl
  replace e98 : T.getD 98 undef = _ := e98
  have e99 := hd 15 99 _ (by decide) (by kernel_rfl) rfl rfl
  replace e99 : T.getD 99 undef = _ := e99
  have eg := hd 9 93 _ (by decide) (by kernel_rfl) rfl rfl
  replace eg : T.getD 93 undef = .bool false := eg
  rw [if_pos (yam_ 9 93 false rfl rfl eg)]
  clear eg
  clear hd hB
  go_simp
  exact hK _ (Below.refl _ _)
 refine DetR.is (o := { dst := some 101, op := Op.fieldAddr 81 (Operand.tmp 100) 1, type := 0, pos := "law.go:51", after := #[{ on := 16, ground := Ground.data }, { on := 9, ground := Ground.guard }], guard := some (9, false) }) (u := .pointer (some ⟨(ad.add (k * 5)).block, (ad.add (k * 5)).off + 1, none⟩)) rfl (by decide) (fun T w' hb hd hB K hK => ?sx18) ?rx18
 case sx18 =>
  have e100 := hd 16 100 _ (by decide) (by kernel_rfl) rfl rfl
  replace e100 : T.getD 100 undef = _ := e100
  have eg := hd 9 93 _ (by decide) (by kernel_rfl) rfl rfl
  replace eg : T.getD 93 undef = .bool false := eg
  rw [if_pos (yam_ 9 93 false rfl rfl eg)]
  clear eg
  clear hd hB
  go_simp
  exact hK _ (Below.refl _ _)
 refine DetR.is (o := { dst := some 102, op := Op.load 24 (Operand.tmp 101), type := 24, pos := "law.go:51", after := #[{ on := 17, ground := Ground.data }, { on := 9, ground := Ground.guard }], guard := some (9, false) }) (u := .agg #[.int .i64 xi, .slice xA xn xc]) rfl (by decide) (fun T w' hb hd hB K hK => ?sx19) ?rx19
 case sx19 =>
  have e101 := hd 17 101 _ (by decide) (by kernel_rfl) rfl rfl
  replace e101 : T.getD 101 undef = _ := e101
  have eg := hd 9 93 _ (by decide) (by kernel_rfl) rfl rfl
  replace eg : T.getD 93 undef = .bool false := eg
  rw [if_pos (yam_ 9 93 false rfl rfl eg)]
  clear eg
  have r0 := yae_ hb hx1
  have r1 := yae_ hb hx2
  clear hd hB
  go_simp
  exact hK _ (Below.refl _ _)
 refine DetR.is (o := { dst := some 103, op := Op.call { callee := Callee.value (Operand.func 28), args := #[Operand.tmp 97, Operand.tmp 102], argTypes := #[24, 24] }, type := 4, pos := "law.go:51", after := #[{ on := 13, ground := Ground.data }, { on := 18, ground := Ground.data }, { on := 13, ground := Ground.chain }, { on := 9, ground := Ground.guard }], guard := some (9, false) }) (u := ?ux20) rfl (by decide) (fun T w' hb hd hB K hK => ?sx20) ?rx20
 case sx20 =>
  obtain ⟨A97, c97, e97, hl97, hC97⟩ := (hd 13 97 _ (by decide) (by kernel_rfl) rfl rfl)
  have e102 := hd 18 102 _ (by decide) (by kernel_rfl) rfl rfl
  replace e102 : T.getD 102 undef = _ := e102
  have eg := hd 9 93 _ (by decide) (by kernel_rfl) rfl rfl
  replace eg : T.getD 93 undef = .bool false := eg
  rw [if_pos (yam_ 9 93 false rfl rfl eg)]
  clear eg
  have hcl := hS w' A97 c97 hb hl97 hC97
  clear hd hB
  go_simp
  go_at_call 28
  refine hcl.mono ?_
  rintro e w2 ⟨rfl, h2⟩
  exact hK _ h2
 refine DetR.is (o := { dst := some 104, op := Op.unOp UnOp.not 4 (Operand.tmp 103), type := 4, pos := "law.go:51", after := #[{ on := 19, ground := Ground.data }, { on := 9, ground := Ground.guard }], guard := some (9, false) }) (u := .bool false) rfl (by decide) (fun T w' hb hd hB K hK => ?sx21) ?rx21
 case sx21 =>
  have e103 := hd 19 103 _ (by decide) (by kernel_rfl) rfl rfl
  replace e103 : T.getD 103 undef = _ := e103
  have eg := hd 9 93 _ (by decide) (by kernel_rfl) rfl rfl
  replace eg : T.getD 93 undef = .bool false := eg
  rw [if_pos (yam_ 9 93 false rfl rfl eg)]
  clear eg
  clear hd hB
  go_simp
  exact hK _ (Below.refl _ _)
 refine DetR.is (o := { dst := some 105, op := Op.pick (Operand.tmp 93) (Operand.const (Value.bool true)) (Operand.tmp 104), type := 4, pos := "law.go:51", after := #[{ on := 9, ground := Ground.data }, { on := 20, ground := Ground.data }], guard := none }) (u := .bool false) rfl (by decide) (fun T w' hb hd hB K hK => ?sx22) ?rx22
 case sx22 =>
  have e93 := hd 9 93 _ (by decide) (by kernel_rfl) rfl rfl
  replace e93 : T.getD 93 undef = _ := e93
  have e104 := hd 20 104 _ (by decide) (by kernel_rfl) rfl rfl
  replace e104 : T.getD 104 undef = _ := e104
  rw [if_pos (yab_ _ rfl)]
  clear hd hB
  go_simp
  exact hK _ (Below.refl _ _)
 refine DetR.done [some 84, some 85, some 86, some 87, some 88, some 89, some 90, some 91, some 92, some 93, some 94, some 95, some 96, some 97, some 98, some 99, some 100, some 101, some 102, some 103, some 104, some 105] (by kernel_rfl) rfl (by kernel_rfl) ?_
 intro v w' hb hv
 exact hK v w' hb (hv 21 _ (by decide) rfl)
def LitTold (x : S78) : Told := fun u w => ∃ A c B d, u = .agg #[.bool x.f0, .int .i64 x.f1.f0, .slice A x.f1.f1.length c, .int .i64 x.f2.f0, .slice B x.f2.f1.length d] ∧ LitP w x A c B d
theorem LitTold.grows (x : S78) : (LitTold x).grows := fun u w w' h hb => by
 obtain ⟨A, c, B, d, h1, h2⟩ := h
 exact ⟨A, c, B, d, h1, h2.below hb⟩
set_option maxHeartbeats 4000000 in
set_option maxRecDepth 100000 in
theorem OrderTells_r27 {id : Nat} {a : Act} {w : World} {Q : Exit → Act → World → Prop} {ad : Addr} {ln cc i k : Nat} {gr : Bool} {x : S78} {xA xB : Option Addr} {xc xd : Nat} {y : S78} {yA yB : Option Addr} {yc yd : Nat}
  (hr : regionOk #[{ dst := some 112, op := Op.move (Operand.tmp 2), type := 65, pos := "law.go:55", after := #[], guard := none }, { dst := some 113, op := Op.move (Operand.tmp 11), type := 3, pos := "law.go:55", after := #[], guard := none }, { dst := some 114, op := Op.indexAddr 65 (Operand.tmp 112) (Operand.tmp 113), type := 0, pos := "law.go:55", after := #[{ on := 0, ground := Ground.data }, { on := 1, ground := Ground.data }], guard := none }, { dst := some 115, op := Op.load 81 (Operand.tmp 114), type := 81, pos := "law.go:55", after := #[{ on := 2, ground := Ground.data }], guard := none }, { dst := some 116, op := Op.call { callee := Callee.value (Operand.func 64), args := #[Operand.tmp 115], argTypes := #[81] }, type := 78, pos := "law.go:55", after := #[{ on := 3, ground := Ground.data }], guard := none }, { dst := some 117, op := Op.move (Operand.tmp 2), type := 65, pos := "law.go:55", after := #[], guard := none }, { dst := some 118, op := Op.move (Operand.tmp 13), type := 3, pos := "law.go:55", after := #[], guard := none }, { dst := some 119, op := Op.indexAddr 65 (Operand.tmp 117) (Operand.tmp 118), type := 0, pos := "law.go:55", after := #[{ on := 5, ground := Ground.data }, { on := 6, ground := Ground.data }], guard := none }, { dst := some 120, op := Op.load 81 (Operand.tmp 119), type := 81, pos := "law.go:55", after := #[{ on := 7, ground := Ground.data }], guard := none }, { dst := some 121, op := Op.call { callee := Callee.value (Operand.func 64), args := #[Operand.tmp 120], argTypes := #[81] }, type := 78, pos := "law.go:55", after := #[{ on := 8, ground := Ground.data }, { on := 4, ground := Ground.chain }], guard := none }, { dst := some 122, op := Op.call { callee := Callee.value (Operand.func 66), args := #[Operand.tmp 116, Operand.tmp 121], argTypes := #[78, 78] }, type := 4, pos := "law.go:55", after := #[{ on := 4, ground := Ground.data }, { on := 9, ground := Ground.data }, { on := 9, ground := Ground.chain }], guard := none }, { dst := some 123, op := Op.move (Operand.tmp 2), type := 65, pos := "law.go:55", after := #[], guard := none }, { dst := some 124, op := Op.move (Operand.tmp 11), type := 3, pos := "law.go:55", after := #[], guard := none }, { dst := some 125, op := Op.indexAddr 65 (Operand.tmp 123) (Operand.tmp 124), type := 0, pos := "law.go:55", after := #[{ on := 11, ground := Ground.data }, { on := 12, ground := Ground.data }], guard := none }, { dst := some 126, op := Op.load 81 (Operand.tmp 125), type := 81, pos := "law.go:55", after := #[{ on := 13, ground := Ground.data }], guard := none }, { dst := some 127, op := Op.move (Operand.tmp 2), type := 65, pos := "law.go:55", after := #[], guard := none }, { dst := some 128, op := Op.move (Operand.tmp 13), type := 3, pos := "law.go:55", after := #[], guard := none }, { dst := some 129, op := Op.indexAddr 65 (Operand.tmp 127) (Operand.tmp 128), type := 0, pos := "law.go:55", after := #[{ on := 15, ground := Ground.data }, { on := 16, ground := Ground.data }], guard := none }, { dst := some 130, op := Op.load 81 (Operand.tmp 129), type := 81, pos := "law.go:55", after := #[{ on := 17, ground := Ground.data }], guard := none }, { dst := some 131, op := Op.call { callee := Callee.value (Operand.func 67), args := #[Operand.tmp 126, Operand.tmp 130], argTypes := #[81, 81] }, type := 4, pos := "law.go:55", after := #[{ on := 14, ground := Ground.data }, { on := 18, ground := Ground.data }, { on := 10, ground := Ground.chain }], guard := none }, { dst := some 132, op := Op.binOp BinOp.neq 4 (Operand.tmp 122) (Operand.tmp 131) 4, type := 4, pos := "law.go:55", after := #[{ on := 10, ground := Ground.data }, { on := 19, ground := Ground.data }], guard := none }] a.tmps.size = true)
  (hT2 : a.tmps.getD 2 undef = .slice (some ad) ln cc)
  (hT11 : a.tmps.getD 11 undef = .int .i64 (i : Int))
  (hT13 : a.tmps.getD 13 undef = .int .i64 (k : Int))
  (hF4 : ∀ w1, Below w.heap.size w w1 → Calls Try.prog 64 #[.agg #[.bool x.f0, .int .i64 x.f1.f0, .slice xA x.f1.f1.length xc, .int .i64 x.f2.f0, .slice xB x.f2.f1.length xd]] w1 fun e w2 => ∃ u, e = .returned u ∧ LitTold x u w2 ∧ Below w1.heap.size w1 w2)
  (hF9 : ∀ w1, Below w.heap.size w w1 → Calls Try.prog 64 #[.agg #[.bool y.f0, .int .i64 y.f1.f0, .slice yA y.f1.f1.length yc, .int .i64 y.f2.f0, .slice yB y.f2.f1.length yd]] w1 fun e w2 => ∃ u, e = .returned u ∧ LitTold y u w2 ∧ Below w1.heap.size w1 w2)
  (hF19 : ∀ w1, Below w.heap.size w w1 → Calls Try.prog 67 #[.agg #[.bool x.f0, .int .i64 x.f1.f0, .slice xA x.f1.f1.length xc, .int .i64 x.f2.f0, .slice xB x.f2.f1.length xd], .agg #[.bool y.f0, .int .i64 y.f1.f0, .slice yA y.f1.f1.length yc, .int .i64 y.f2.f0, .slice yB y.f2.f1.length yd]] w1 fun e w2 => e = .returned (.bool gr) ∧ Below w1.heap.size w1 w2)
  (hi : i < ln) (hk : k < ln) (hlc : ln ≤ cc)
  (hx0 : w.cell? (ad.add (i * 5)) = some (.bool x.f0))
  (hx1 : w.cell? ⟨(ad.add (i * 5)).block, (ad.add (i * 5)).off + 1, none⟩ = some (.int .i64 x.f1.f0))
  (hx2 : w.cell? ⟨(ad.add (i * 5)).block, (ad.add (i * 5)).off + 2, none⟩ = some (.slice xA x.f1.f1.length xc))
  (hx3 : w.cell? ⟨(ad.add (i * 5)).block, (ad.add (i * 5)).off + 3, none⟩ = some (.int .i64 x.f2.f0))
  (hx4 : w.cell? ⟨(ad.add (i * 5)).block, (ad.add (i * 5)).off + 4, none⟩ = some (.slice xB x.f2.f1.length xd))
  (hy0 : w.cell? (ad.add (k * 5)) = some (.bool y.f0))
  (hy1 : w.cell? ⟨(ad.add (k * 5)).block, (ad.add (k * 5)).off + 1, none⟩ = some (.int .i64 y.f1.f0))
  (hy2 : w.cell? ⟨(ad.add (k * 5)).block, (ad.add (k * 5)).off + 2, none⟩ = some (.slice yA y.f1.f1.length yc))
  (hy3 : w.cell? ⟨(ad.add (k * 5)).block, (ad.add (k * 5)).off + 3, none⟩ = some (.int .i64 y.f2.f0))
  (hy4 : w.cell? ⟨(ad.add (k * 5)).block, (ad.add (k * 5)).off + 4, none⟩ = some (.slice yB y.f2.f1.length yd))
  (hG : ∀ (w1 : World) (A : Option Addr) (c : Nat) (B : Option Addr) (d : Nat) (A' : Option Addr) (c' : Nat) (B' : Option Addr) (d' : Nat), Below w.heap.size w w1 → LitP w1 x A c B d → LitP w1 y A' c' B' d' → Calls Try.prog 66 #[.agg #[.bool x.f0, .int .i64 x.f1.f0, .slice A x.f1.f1.length c, .int .i64 x.f2.f0, .slice B x.f2.f1.length d], .agg #[.bool y.f0, .int .i64 y.f1.f0, .slice A' y.f1.f1.length c', .int .i64 y.f2.f0, .slice B' y.f2.f1.length d']] w1 fun e w2 => e = .returned (.bool gr) ∧ Below w1.heap.size w1 w2)
  (hK : ∀ v w', Below w.heap.size w w' → v 20 = .bool false → Q .normal { tmps := layL [some 112, some 113, some 114, some 115, some 116, some 117, some 118, some 119, some 120, some 121, some 122, some 123, some 124, some 125, some 126, some 127, some 128, some 129, some 130, some 131, some 132] 0 v a.tmps, defers := a.defers } w') :
  (Code.region id #[{ dst := some 112, op := Op.move (Operand.tmp 2), type := 65, pos := "law.go:55", after := #[], guard := none }, { dst := some 113, op := Op.move (Operand.tmp 11), type := 3, pos := "law.go:55", after := #[], guard := none }, { dst := some 114, op := Op.indexAddr 65 (Operand.tmp 112) (Operand.tmp 113), type := 0, pos := "law.go:55", after := #[{ on := 0, ground := Ground.data }, { on := 1, ground := Ground.data }], guard := none }, { dst := some 115, op := Op.load 81 (Operand.tmp 114), type := 81, pos := "law.go:55", after := #[{ on := 2, ground := Ground.data }], guard := none }, { dst := some 116, op := Op.call { callee := Callee.value (Operand.func 64), args := #[Operand.tmp 115], argTypes := #[81] }, type := 78, pos := "law.go:55", after := #[{ on := 3, ground := Ground.data }], guard := none }, { dst := some 117, op := Op.move (Operand.tmp 2), type := 65, pos := "law.go:55", after := #[], guard := none }, { dst := some 118, op := Op.move (Operand.tmp 13), type := 3, pos := "law.go:55", after := #[], guard := none }, { dst := some 119, op := Op.indexAddr 65 (Operand.tmp 117) (Operand.tmp 118), type := 0, pos := "law.go:55", after := #[{ on := 5, ground := Ground.data }, { on := 6, ground := Ground.data }], guard := none }, { dst := some 120, op := Op.load 81 (Operand.tmp 119), type := 81, pos := "law.go:55", after := #[{ on := 7, ground := Ground.data }], guard := none }, { dst := some 121, op := Op.call { callee := Callee.value (Operand.func 64), args := #[Operand.tmp 120], argTypes := #[81] }, type := 78, pos := "law.go:55", after := #[{ on := 8, ground := Ground.data }, { on := 4, ground := Ground.chain }], guard := none }, { dst := some 122, op := Op.call { callee := Callee.value (Operand.func 66), args := #[Operand.tmp 116, Operand.tmp 121], argTypes := #[78, 78] }, type := 4, pos := "law.go:55", after := #[{ on := 4, ground := Ground.data }, { on := 9, ground := Ground.data }, { on := 9, ground := Ground.chain }], guard := none }, { dst := some 123, op := Op.move (Operand.tmp 2), type := 65, pos := "law.go:55", after := #[], guard := none }, { dst := some 124, op := Op.move (Operand.tmp 11), type := 3, pos := "law.go:55", after := #[], guard := none }, { dst := some 125, op := Op.indexAddr 65 (Operand.tmp 123) (Operand.tmp 124), type := 0, pos := "law.go:55", after := #[{ on := 11, ground := Ground.data }, { on := 12, ground := Ground.data }], guard := none }, { dst := some 126, op := Op.load 81 (Operand.tmp 125), type := 81, pos := "law.go:55", after := #[{ on := 13, ground := Ground.data }], guard := none }, { dst := some 127, op := Op.move (Operand.tmp 2), type := 65, pos := "law.go:55", after := #[], guard := none }, { dst := some 128, op := Op.move (Operand.tmp 13), type := 3, pos := "law.go:55", after := #[], guard := none }, { dst := some 129, op := Op.indexAddr 65 (Operand.tmp 127) (Operand.tmp 128), type := 0, pos := "law.go:55", after := #[{ on := 15, ground := Ground.data }, { on := 16, ground := Ground.data }], guard := none }, { dst := some 130, op := Op.load 81 (Operand.tmp 129), type := 81, pos := "law.go:55", after := #[{ on := 17, ground := Ground.data }], guard := none }, { dst := some 131, op := Op.call { callee := Callee.value (Operand.func 67), args := #[Operand.tmp 126, Operand.tmp 130], argTypes := #[81, 81] }, type := 4, pos := "law.go:55", after := #[{ on := 14, ground := Ground.data }, { on := 18, ground := Ground.data }, { on := 10, ground := Ground.chain }], guard := none }, { dst := some 132, op := Op.binOp BinOp.neq 4 (Operand.tmp 122) (Operand.tmp 131) 4, type := 4, pos := "law.go:55", after := #[{ on := 10, ground := Ground.data }, { on := 19, ground := Ground.data }], guard := none }] true).wp Try.prog Q a w := by
 have hmx : Try.prog.follows .mixedOrders = true := by kernel_rfl
 refine region_detR 21 hmx hr (by kernel_rfl) ?_
 refine DetR.is (o := { dst := some 112, op := Op.move (Operand.tmp 2), type := 65, pos := "law.go:55", after := #[], guard := none }) (u := ?ux23) rfl (by decide) (fun T w' hb hd hB K hK => ?sx23) ?rx23
 case sx23 =>
  have e2 := (hB 2 (by kernel_rfl)).trans hT2
  rw [if_pos (yab_ _ rfl)]
  clear hd hB
  go_simp
  exact hK _ (Below.refl _ _)
 refine DetR.is (o := { dst := some 113, op := Op.move (Operand.tmp 11), type := 3, pos := "law.go:55", after := #[], guard := none }) (u := ?ux24) rfl (by decide) (fun T w' hb hd hB K hK => ?sx24) ?rx24
 case sx24 =>
  have e11 := (hB 11 (by kernel_rfl)).trans hT11
  rw [if_pos (yab_ _ rfl)]
  clear hd hB
  go_simp
  exact hK _ (Below.refl _ _)
 refine DetR.is (o := { dst := some 114, op := Op.indexAddr 65 (Operand.tmp 112) (Operand.tmp 113), type := 0, pos := "law.go:55", after := #[{ on := 0, ground := Ground.data }, { on := 1, ground := Ground.data }], guard := none }) (u := .pointer (some (ad.add (i * 5)))) rfl (by decide) (fun T w' hb hd hB K hK => ?sx25) ?rx25
 case sx25 =>
  have e112 := hd 0 112 _ (by decide) (by kernel_rfl) rfl rfl
  replace e112 : T.getD 112 undef = _ := e112
  have e113 := hd 1 113 _ (by decide) (by kernel_rfl) rfl rfl
  replace e113 : T.getD 113 undef = _ := e113
  rw [if_pos (yab_ _ rfl)]
  clear hd hB
  go_simp
  exact hK _ (Below.refl _ _)
 refine DetR.is (o := { dst := some 115, op := Op.load 81 (Operand.tmp 114), type := 81, pos := "law.go:55", after := #[{ on := 2, ground := Ground.data }], guard := none }) (u := .agg #[.bool x.f0, .int .i64 x.f1.f0, .slice xA x.f1.f1.length xc, .int .i64 x.f2.f0, .slice xB x.f2.f1.length xd]) rfl (by decide) (fun T w' hb hd hB K hK => ?sx26) ?rx26
 case sx26 =>
  have e114 := hd 2 114 _ (by decide) (by kernel_rfl) rfl rfl
  replace e114 : T.getD 114 undef = _ := e114
  rw [if_pos (yab_ _ rfl)]
  have r0 := yae_ hb hx0
  have r1 := yae_ hb hx1
  have r2 := yae_ hb hx2
  have r3 := yae_ hb hx3
  have r4 := yae_ hb hx4
  clear hd hB
  go_simp
  exact hK _ (Below.refl _ _)
 refine DetR.cons (o := { dst := some 116, op := Op.call { callee := Callee.value (Operand.func 64), args := #[Operand.tmp 115], argTypes := #[81] }, type := 78, pos := "law.go:55", after := #[{ on := 3, ground := Ground.data }], guard := none }) (LitTold x) rfl (by decide) (LitTold.grows _) (fun T w' hb hd hB K hK => ?sx27) ?rx27
 case sx27 =>
  have e115 := hd 3 115 _ (by decide) (by kernel_rfl) rfl rfl
  replace e115 : T.getD 115 undef = _ := e115
  rw [if_pos (yab_ _ rfl)]
  have hcl := hF4 w' hb
  clear hd hB
  go_simp
  go_at_call 64
  refine hcl.mono ?_
  rintro e w2 ⟨u, rfl, h1, h2⟩
  exact hK _ _ h2 h1
 refine DetR.is (o := { dst := some 117, op := Op.move (Operand.tmp 2), type := 65, pos := "law.go:55", after := #[], guard := none }) (u := ?ux28) rfl (by decide) (fun T w' hb hd hB K hK => ?sx28) ?rx28
 case sx28 =>
  have e2 := (hB 2 (by kernel_rfl)).trans hT2
  rw [if_pos (yab_ _ rfl)]
  clear hd hB
  go_simp
  exact hK _ (Below.refl _ _)
 refine DetR.is (o := { dst := some 118, op := Op.move (Operand.tmp 13), type := 3, pos := "law.go:55", after := #[], guard := none }) (u := ?ux29) rfl (by decide) (fun T w' hb hd hB K hK => ?sx29) ?rx29
 case sx29 =>
  have e13 := (hB 13 (by kernel_rfl)).trans hT13
  rw [if_pos (yab_ _ rfl)]
  clear hd hB
  go_simp
  exact hK _ (Below.refl _ _)
 refine DetR.is (o := { dst := some 119, op := Op.indexAddr 65 (Operand.tmp 117) (Operand.tmp 118), type := 0, pos := "law.go:55", after := #[{ on := 5, ground := Ground.data }, { on := 6, ground := Ground.data }], guard := none }) (u := .pointer (some (ad.add (k * 5)))) rfl (by decide) (fun T w' hb hd hB K hK => ?sx30) ?rx30
 case sx30 =>
  have e117 := hd 5 117 _ (by decide) (by kernel_rfl) rfl rfl
  replace e117 : T.getD 117 undef = _ := e117
  have e118 := hd 6 118 _ (by decide) (by kernel_rfl) rfl rfl
  replace e118 : T.getD 118 undef = _ := e118
  rw [if_pos (yab_ _ rfl)]
  clear hd hB
  go_simp
  exact hK _ (Below.refl _ _)
 refine DetR.is (o := { dst := some 120, op := Op.load 81 (Operand.tmp 119), type := 81, pos := "law.go:55", after := #[{ on := 7, ground := Ground.data }], guard := none }) (u := .agg #[.bool y.f0, .int .i64 y.f1.f0, .slice yA y.f1.f1.length yc, .int .i64 y.f2.f0, .slice yB y.f2.f1.length yd]) rfl (by decide) (fun T w' hb hd hB K hK => ?sx31) ?rx31
 case sx31 =>
  have e119 := hd 7 119 _ (by decide) (by kernel_rfl) rfl rfl
  replace e119 : T.getD 119 undef = _ := e119
  rw [if_pos (yab_ _ rfl)]
  have r0 := yae_ hb hy0
  have r1 := yae_ hb hy1
  have r2 := yae_ hb hy2
  have r3 := yae_ hb hy3
  have r4 := yae_ hb hy4
  clear hd hB
  go_simp
  exact hK _ (Below.refl _ _)
 refine DetR.cons (o := { dst := some 121, op := Op.call { callee := Callee.value (Operand.func 64), args := #[Operand.tmp 120], argTypes := #[81] }, type := 78, pos := "law.go:55", after := #[{ on := 8, ground := Ground.data }, { on := 4, ground := Ground.chain }], guard := none }) (LitTold y) rfl (by decide) (LitTold.grows _) (fun T w' hb hd hB K hK => ?sx32) ?rx32
 case sx32 =>
  have e120 := hd 8 120 _ (by decide) (by kernel_rfl) rfl rfl
  replace e120 : T.getD 120 undef = _ := e120
  rw [if_pos (yab_ _ rfl)]
  have hcl := hF9 w' hb
  clear hd hB
  go_simp
  go_at_call 64
  refine hcl.mono ?_
  rintro e w2 ⟨u, rfl, h1, h2⟩
  exact hK _ _ h2 h1
 refine DetR.is (o := { dst := some 122, op := Op.call { callee := Callee.value (Operand.func 66), args := #[Operand.tmp 116, Operand.tmp 121], argTypes := #[78, 78] }, type := 4, pos := "law.go:55", after := #[{ on := 4, ground := Ground.data }, { on := 9, ground := Ground.data }, { on := 9, ground := Ground.chain }], guard := none }) (u := .bool gr) rfl (by decide) (fun T w' hb hd hB K hK => ?sx33) ?rx33
 case sx33 =>
  obtain ⟨A116, c116, B116, d116, e116, hL116⟩ := (hd 4 116 _ (by decide) (by kernel_rfl) rfl rfl)
  obtain ⟨A121, c121, B121, d121, e121, hL121⟩ := (hd 9 121 _ (by decide) (by kernel_rfl) rfl rfl)
  rw [if_pos (yab_ _ rfl)]
  have hcl := hG w' A116 c116 B116 d116 A121 c121 B121 d121 hb hL116 hL121
  clear hd hB
  go_simp
  go_at_call 66
  refine hcl.mono ?_
  rintro e w2 ⟨rfl, h2⟩
  exact hK _ h2
 refine DetR.is (o := { dst := some 123, op := Op.move (Operand.tmp 2), type := 65, pos := "law.go:55", after := #[], guard := none }) (u := ?ux34) rfl (by decide) (fun T w' hb hd hB K hK => ?sx34) ?rx34
 case sx34 =>
  have e2 := (hB 2 (by kernel_rfl)).trans hT2
  rw [if_pos (yab_ _ rfl)]
  clear hd hB
  go_simp
  exact hK _ (Below.refl _ _)
 refine DetR.is (o := { dst := some 124, op := Op.move (Operand.tmp 11), type := 3, pos := "law.go:55", after := #[], guard := none }) (u := ?ux35) rfl (by decide) (fun T w' hb hd hB K hK => ?sx35) ?rx35
 case sx35 =>
  have e11 := (hB 11 (by kernel_rfl)).trans hT11
  rw [if_pos (yab_ _ rfl)]
  clear hd hB
  go_simp
  exact hK _ (Below.refl _ _)
 refine DetR.is (o := { dst := some 125, op := Op.indexAddr 65 (Operand.tmp 123) (Operand.tmp 124), type := 0, pos := "law.go:55", after := #[{ on := 11, ground := Ground.data }, { on := 12, ground := Ground.data }], guard := none }) (u := .pointer (some (ad.add (i * 5)))) rfl (by decide) (fun T w' hb hd hB K hK => ?sx36) ?rx36
 case sx36 =>
  have e123 := hd 11 123 _ (by decide) (by kernel_rfl) rfl rfl
  replace e123 : T.getD 123 undef = _ := e123
  have e124 := hd 12 124 _ (by decide) (by kernel_rfl) rfl rfl
  replace e124 : T.getD 124 undef = _ := e124
  rw [if_pos (yab_ _ rfl)]
  clear hd hB
  go_simp
  exact hK _ (Below.refl _ _)
 refine DetR.is (o := { dst := some 126, op := Op.load 81 (Operand.tmp 125), type := 81, pos := "law.go:55", after := #[{ on := 13, ground := Ground.data }], guard := none }) (u := .agg #[.bool x.f0, .int .i64 x.f1.f0, .slice xA x.f1.f1.length xc, .int .i64 x.f2.f0, .slice xB x.f2.f1.length xd]) rfl (by decide) (fun T w' hb hd hB K hK => ?sx37) ?rx37
 case sx37 =>
  have e125 := hd 13 125 _ (by decide) (by kernel_rfl) rfl rfl
  replace e125 : T.getD 125 undef = _ := e125
  rw [if_pos (yab_ _ rfl)]
  have r0 := yae_ hb hx0
  have r1 := yae_ hb hx1
  have r2 := yae_ hb hx2
  have r3 := yae_ hb hx3
  have r4 := yae_ hb hx4
  clear hd hB
  go_simp
  exact hK _ (Below.refl _ _)
 refine DetR.is (o := { dst := some 127, op := Op.move (Operand.tmp 2), type := 65, pos := "law.go:55", after := #[], guard := none }) (u := ?ux38) rfl (by decide) (fun T w' hb hd hB K hK => ?sx38) ?rx38
 case sx38 =>
  have e2 := (hB 2 (by kernel_rfl)).trans hT2
  rw [if_pos (yab_ _ rfl)]
  clear hd hB
  go_simp
  exact hK _ (Below.refl _ _)
 refine DetR.is (o := { dst := some 128, op := Op.move (Operand.tmp 13), type := 3, pos := "law.go:55", after := #[], guard := none }) (u := ?ux39) rfl (by decide) (fun T w' hb hd hB K hK => ?sx39) ?rx39
 case sx39 =>
  have e13 := (hB 13 (by kernel_rfl)).trans hT13
  rw [if_pos (yab_ _ rfl)]
  clear hd hB
  go_simp
  exact hK _ (Below.refl _ _)
 refine DetR.is (o := { dst := some 129, op := Op.indexAddr 65 (Operand.tmp 127) (Operand.tmp 128), type := 0, pos := "law.go:55", after := #[{ on := 15, ground := Ground.data }, { on := 16, ground := Ground.data }], guard := none }) (u := .pointer (some (ad.add (k * 5)))) rfl (by decide) (fun T w' hb hd hB K hK => ?sx40) ?rx40
 case sx40 =>
  have e127 := hd 15 127 _ (by decide) (by kernel_rfl) rfl rfl
  replace e127 : T.getD 127 undef = _ := e127
  have e128 := hd 16 128 _ (by decide) (by kernel_rfl) rfl rfl
  replace e128 : T.getD 128 undef = _ := e128
  rw [if_pos (yab_ _ rfl)]
  clear hd hB
  go_simp
  exact hK _ (Below.refl _ _)
 refine DetR.is (o := { dst := some 130, op := Op.load 81 (Operand.tmp 129), type := 81, pos := "law.go:55", after := #[{ on := 17, ground := Ground.data }], guard := none }) (u := .agg #[.bool y.f0, .int .i64 y.f1.f0, .slice yA y.f1.f1.length yc, .int .i64 y.f2.f0, .slice yB y.f2.f1.length yd]) rfl (by decide) (fun T w' hb hd hB K hK => ?sx41) ?rx41
 case sx41 =>
  have e129 := hd 17 129 _ (by decide) (by kernel_rfl) rfl rfl
  replace e129 : T.getD 129 undef = _ := e129
  rw [if_pos (yab_ _ rfl)]
  have r0 := yae_ hb hy0
  have r1 := yae_ hb hy1
  have r2 := yae_ hb hy2
  have r3 := yae_ hb hy3
  have r4 := yae_ hb hy4
  clear hd hB
  go_simp
  exact hK _ (Below.refl _ _)
 refine DetR.is (o := { dst := some 131, op := Op.call { callee := Callee.value (Operand.func 67), args := #[Operand.tmp 126, Operand.tmp 130], argTypes := #[81, 81] }, type := 4, pos := "law.go:55", after := #[{ on := 14, ground := Ground.data }, { on := 18, ground := Ground.data }, { on := 10, ground := Ground.chain }], guard := none }) (u := .bool gr) rfl (by decide) (fun T w' hb hd hB K hK => ?sx42) ?rx42
 case sx42 =>
  have e126 := hd 14 126 _ (by decide) (by kernel_rfl) rfl rfl
  replace e126 : T.getD 126 undef = _ := e126
  have e130 := hd 18 130 _ (by decide) (by kernel_rfl) rfl rfl
  replace e130 : T.getD 130 undef = _ := e130
  rw [if_pos (yab_ _ rfl)]
  have hcl := hF19 w' hb
  clear hd hB
  go_simp
  go_at_call 67
  refine hcl.mono ?_
  rintro e w2 ⟨rfl, h2⟩
  exact hK _ h2
 refine DetR.is (o := { dst := some 132, op := Op.binOp BinOp.neq 4 (Operand.tmp 122) (Operand.tmp 131) 4, type := 4, pos := "law.go:55", after := #[{ on := 10, ground := Ground.data }, { on := 19, ground := Ground.data }], guard := none }) (u := .bool false) rfl (by decide) (fun T w' hb hd hB K hK => ?sx43) ?rx43
 case sx43 =>
  have e122 := hd 10 122 _ (by decide) (by kernel_rfl) rfl rfl
  replace e122 : T.getD 122 undef = _ := e122
  have e131 := hd 19 131 _ (by decide) (by kernel_rfl) rfl rfl
  replace e131 : T.getD 131 undef = _ := e131
  rw [if_pos (yab_ _ rfl)]
  clear hd hB
  go_simp
  try simp only [bne_self_eq_false]
  exact hK _ (Below.refl _ _)
 refine DetR.done [some 112, some 113, some 114, some 115, some 116, some 117, some 118, some 119, some 120, some 121, some 122, some 123, some 124, some 125, some 126, some 127, some 128, some 129, some 130, some 131, some 132] (by kernel_rfl) rfl (by kernel_rfl) ?_
 intro v w' hb hv
 exact hK v w' hb (hv 20 _ (by decide) rfl)
def OrTold (x : S78) : Told := fun u w => ∃ g cs A c B d, u = .slice (some ⟨g, 0, none⟩) (orientL x.f1 x.f2).length 2 ∧ w.heap[g]? = some (.cells cs 89 (0, 0)) ∧ cs.size = 8 ∧ (∀ t, t < (orientL x.f1 x.f2).length * 4 → cs[t]? = (left2 (decide (kcmp x.f1 x.f2 < 1)) (decide (kcmp x.f2 x.f1 < 1)) [.int .i64 x.f1.f0, .slice A x.f1.f1.length c, .int .i64 x.f2.f0, .slice B x.f2.f1.length d] [.int .i64 x.f2.f0, .slice B x.f2.f1.length d, .int .i64 x.f1.f0, .slice A x.f1.f1.length c])[t]?) ∧ LitP w x A c B d
theorem OrTold.grows (x : S78) : (OrTold x).grows := fun u w w' h hb => by
 obtain ⟨g, cs, A, c, B, d, h1, h2, h3, h4, h5⟩ := h
 exact ⟨g, cs, A, c, B, d, h1, kB_ h2 hb, h3, h4, h5.below hb⟩
set_option maxHeartbeats 4000000 in
set_option maxRecDepth 100000 in
theorem OrderTells_r29 {id : Nat} {a : Act} {w : World} {Q : Exit → Act → World → Prop} {ad : Addr} {ln cc i : Nat} {x : S78} {xA xB : Option Addr} {xc xd : Nat}
  (hr : regionOk #[{ dst := some 133, op := Op.move (Operand.tmp 2), type := 65, pos := "law.go:59", after := #[], guard := none }, { dst := some 134, op := Op.move (Operand.tmp 11), type := 3, pos := "law.go:59", after := #[], guard := none }, { dst := some 135, op := Op.indexAddr 65 (Operand.tmp 133) (Operand.tmp 134), type := 0, pos := "law.go:59", after := #[{ on := 0, ground := Ground.data }, { on := 1, ground := Ground.data }], guard := none }, { dst := some 136, op := Op.load 81 (Operand.tmp 135), type := 81, pos := "law.go:59", after := #[{ on := 2, ground := Ground.data }], guard := none }, { dst := some 137, op := Op.call { callee := Callee.value (Operand.func 64), args := #[Operand.tmp 136], argTypes := #[81] }, type := 78, pos := "law.go:59", after := #[{ on := 3, ground := Ground.data }], guard := none }, { dst := some 138, op := Op.call { callee := Callee.value (Operand.func 68), args := #[Operand.tmp 137], argTypes := #[78] }, type := 85, pos := "law.go:59", after := #[{ on := 4, ground := Ground.data }, { on := 4, ground := Ground.chain }], guard := none }, { dst := some 139, op := Op.move (Operand.tmp 2), type := 65, pos := "law.go:59", after := #[], guard := none }, { dst := some 140, op := Op.move (Operand.tmp 11), type := 3, pos := "law.go:59", after := #[], guard := none }, { dst := some 141, op := Op.indexAddr 65 (Operand.tmp 139) (Operand.tmp 140), type := 0, pos := "law.go:59", after := #[{ on := 6, ground := Ground.data }, { on := 7, ground := Ground.data }], guard := none }, { dst := some 142, op := Op.load 81 (Operand.tmp 141), type := 81, pos := "law.go:59", after := #[{ on := 8, ground := Ground.data }], guard := none }, { dst := some 143, op := Op.call { callee := Callee.value (Operand.func 69), args := #[Operand.tmp 142], argTypes := #[81] }, type := 87, pos := "law.go:59", after := #[{ on := 9, ground := Ground.data }, { on := 5, ground := Ground.chain }], guard := none }, { dst := some 14, op := Op.assign (Operand.tmp 138), type := 85, pos := "law.go:59", after := #[{ on := 5, ground := Ground.data }, { on := 10, ground := Ground.chain }, { on := 0, ground := Ground.phase }, { on := 1, ground := Ground.phase }, { on := 2, ground := Ground.phase }, { on := 3, ground := Ground.phase }, { on := 4, ground := Ground.phase }, { on := 5, ground := Ground.phase }, { on := 6, ground := Ground.textOnly Departure.lateStores }, { on := 7, ground := Ground.textOnly Departure.lateStores }, { on := 8, ground := Ground.textOnly Departure.lateStores }, { on := 9, ground := Ground.textOnly Departure.lateStores }, { on := 10, ground := Ground.textOnly Departure.lateStoresUnsure }], guard := none }, { dst := some 15, op := Op.assign (Operand.tmp 143), type := 87, pos := "law.go:59", after := #[{ on := 10, ground := Ground.data }, { on := 11, ground := Ground.chain }, { on := 0, ground := Ground.phase }, { on := 1, ground := Ground.phase }, { on := 2, ground := Ground.phase }, { on := 3, ground := Ground.phase }, { on := 4, ground := Ground.phase }, { on := 5, ground := Ground.phase }, { on := 6, ground := Ground.phase }, { on := 7, ground := Ground.phase }, { on := 8, ground := Ground.phase }, { on := 9, ground := Ground.phase }, { on := 10, ground := Ground.phase }, { on := 11, ground := Ground.phase }], guard := none }] a.tmps.size = true)
  (hT2 : a.tmps.getD 2 undef = .slice (some ad) ln cc)
  (hT11 : a.tmps.getD 11 undef = .int .i64 (i : Int))
  (hF4 : ∀ w1, Below w.heap.size w w1 → Calls Try.prog 64 #[.agg #[.bool x.f0, .int .i64 x.f1.f0, .slice xA x.f1.f1.length xc, .int .i64 x.f2.f0, .slice xB x.f2.f1.length xd]] w1 fun e w2 => ∃ u, e = .returned u ∧ LitTold x u w2 ∧ Below w1.heap.size w1 w2)
  (hF10 : ∀ w1, Below w.heap.size w w1 → Calls Try.prog 69 #[.agg #[.bool x.f0, .int .i64 x.f1.f0, .slice xA x.f1.f1.length xc, .int .i64 x.f2.f0, .slice xB x.f2.f1.length xd]] w1 fun e w2 => ∃ u, e = .returned u ∧ (RowTold (Kd.slice 24 k24) (orientL x.f1 x.f2)) u w2 ∧ Below w1.heap.size w1 w2)
  (hi : i < ln) (hlc : ln ≤ cc)
  (hx0 : w.cell? (ad.add (i * 5)) = some (.bool x.f0))
  (hx1 : w.cell? ⟨(ad.add (i * 5)).block, (ad.add (i * 5)).off + 1, none⟩ = some (.int .i64 x.f1.f0))
  (hx2 : w.cell? ⟨(ad.add (i * 5)).block, (ad.add (i * 5)).off + 2, none⟩ = some (.slice xA x.f1.f1.length xc))
  (hx3 : w.cell? ⟨(ad.add (i * 5)).block, (ad.add (i * 5)).off + 3, none⟩ = some (.int .i64 x.f2.f0))
  (hx4 : w.cell? ⟨(ad.add (i * 5)).block, (ad.add (i * 5)).off + 4, none⟩ = some (.slice xB x.f2.f1.length xd))
  (hO : ∀ (w1 : World) (A : Option Addr) (c : Nat) (B : Option Addr) (d : Nat), Below w.heap.size w w1 → LitP w1 x A c B d → Calls Try.prog 68 #[.agg #[.bool x.f0, .int .i64 x.f1.f0, .slice A x.f1.f1.length c, .int .i64 x.f2.f0, .slice B x.f2.f1.length d]] w1 fun e w2 => ∃ u, e = .returned u ∧ OrTold x u w2 ∧ Below w1.heap.size w1 w2)
  (hK : ∀ v w', Below w.heap.size w w' → OrTold x (v 11) w' → RowTold (Kd.slice 24 k24) (orientL x.f1 x.f2) (v 12) w' → Q .normal { tmps := layL [some 133, some 134, some 135, some 136, some 137, some 138, some 139, some 140, some 141, some 142, some 143, some 14, some 15] 0 v a.tmps, defers := a.defers } w') :
  (Code.region id #[{ dst := some 133, op := Op.move (Operand.tmp 2), type := 65, pos := "law.go:59", after := #[], guard := none }, { dst := some 134, op := Op.move (Operand.tmp 11), type := 3, pos := "law.go:59", after := #[], guard := none }, { dst := some 135, op := Op.indexAddr 65 (Operand.tmp 133) (Operand.tmp 134), type := 0, pos := "law.go:59", after := #[{ on := 0, ground := Ground.data }, { on := 1, ground := Ground.data }], guard := none }, { dst := some 136, op := Op.load 81 (Operand.tmp 135), type := 81, pos := "law.go:59", after := #[{ on := 2, ground := Ground.data }], guard := none }, { dst := some 137, op := Op.call { callee := Callee.value (Operand.func 64), args := #[Operand.tmp 136], argTypes := #[81] }, type := 78, pos := "law.go:59", after := #[{ on := 3, ground := Ground.data }], guard := none }, { dst := some 138, op := Op.call { callee := Callee.value (Operand.func 68), args := #[Operand.tmp 137], argTypes := #[78] }, type := 85, pos := "law.go:59", after := #[{ on := 4, ground := Ground.data }, { on := 4, ground := Ground.chain }], guard := none }, { dst := some 139, op := Op.move (Operand.tmp 2), type := 65, pos := "law.go:59", after := #[], guard := none }, { dst := some 140, op := Op.move (Operand.tmp 11), type := 3, pos := "law.go:59", after := #[], guard := none }, { dst := some 141, op := Op.indexAddr 65 (Operand.tmp 139) (Operand.tmp 140), type := 0, pos := "law.go:59", after := #[{ on := 6, ground := Ground.data }, { on := 7, ground := Ground.data }], guard := none }, { dst := some 142, op := Op.load 81 (Operand.tmp 141), type := 81, pos := "law.go:59", after := #[{ on := 8, ground := Ground.data }], guard := none }, { dst := some 143, op := Op.call { callee := Callee.value (Operand.func 69), args := #[Operand.tmp 142], argTypes := #[81] }, type := 87, pos := "law.go:59", after := #[{ on := 9, ground := Ground.data }, { on := 5, ground := Ground.chain }], guard := none }, { dst := some 14, op := Op.assign (Operand.tmp 138), type := 85, pos := "law.go:59", after := #[{ on := 5, ground := Ground.data }, { on := 10, ground := Ground.chain }, { on := 0, ground := Ground.phase }, { on := 1, ground := Ground.phase }, { on := 2, ground := Ground.phase }, { on := 3, ground := Ground.phase }, { on := 4, ground := Ground.phase }, { on := 5, ground := Ground.phase }, { on := 6, ground := Ground.textOnly Departure.lateStores }, { on := 7, ground := Ground.textOnly Departure.lateStores }, { on := 8, ground := Ground.textOnly Departure.lateStores }, { on := 9, ground := Ground.textOnly Departure.lateStores }, { on := 10, ground := Ground.textOnly Departure.lateStoresUnsure }], guard := none }, { dst := some 15, op := Op.assign (Operand.tmp 143), type := 87, pos := "law.go:59", after := #[{ on := 10, ground := Ground.data }, { on := 11, ground := Ground.chain }, { on := 0, ground := Ground.phase }, { on := 1, ground := Ground.phase }, { on := 2, ground := Ground.phase }, { on := 3, ground := Ground.phase }, { on := 4, ground := Ground.phase }, { on := 5, ground := Ground.phase }, { on := 6, ground := Ground.phase }, { on := 7, ground := Ground.phase }, { on := 8, ground := Ground.phase }, { on := 9, ground := Ground.phase }, { on := 10, ground := Ground.phase }, { on := 11, ground := Ground.phase }], guard := none }] true).wp Try.prog Q a w := by
 have hmx : Try.prog.follows .mixedOrders = true := by kernel_rfl
 refine region_detR 13 hmx hr (by kernel_rfl) ?_
 refine DetR.is (o := { dst := some 133, op := Op.move (Operand.tmp 2), type := 65, pos := "law.go:59", after := #[], guard := none }) (u := ?ux44) rfl (by decide) (fun T w' hb hd hB K hK => ?sx44) ?rx44
 case sx44 =>
  have e2 := (hB 2 (by kernel_rfl)).trans hT2
  rw [if_pos (yab_ _ rfl)]
  clear hd hB
  go_simp
  exact hK _ (Below.refl _ _)
 refine DetR.is (o := { dst := some 134, op := Op.move (Operand.tmp 11), type := 3, pos := "law.go:59", after := #[], guard := none }) (u := ?ux45) rfl (by decide) (fun T w' hb hd hB K hK => ?sx45) ?rx45
 case sx45 =>
  have e11 := (hB 11 (by kernel_rfl)).trans hT11
  rw [if_pos (yab_ _ rfl)]
  clear hd hB
  go_simp
  exact hK _ (Below.refl _ _)
 refine DetR.is (o := { dst := some 135, op := Op.indexAddr 65 (Operand.tmp 133) (Operand.tmp 134), type := 0, pos := "law.go:59", after := #[{ on := 0, ground := Ground.data }, { on := 1, ground := Ground.data }], guard := none }) (u := .pointer (some (ad.add (i * 5)))) rfl (by decide) (fun T w' hb hd hB K hK => ?sx46) ?rx46
 case sx46 =>
  have e133 := hd 0 133 _ (by decide) (by kernel_rfl) rfl rfl
  replace e133 : T.getD 133 undef = _ := e133
  have e134 := hd 1 134 _ (by decide) (by kernel_rfl) rfl rfl
  replace e134 : T.getD 134 undef = _ := e134
  rw [if_pos (yab_ _ rfl)]
  clear hd hB
  go_simp
  exact hK _ (Below.refl _ _)
 refine DetR.is (o := { dst := some 136, op := Op.load 81 (Operand.tmp 135), type := 81, pos := "law.go:59", after := #[{ on := 2, ground := Ground.data }], guard := none }) (u := .agg #[.bool x.f0, .int .i64 x.f1.f0, .slice xA x.f1.f1.length xc, .int .i64 x.f2.f0, .slice xB x.f2.f1.length xd]) rfl (by decide) (fun T w' hb hd hB K hK => ?sx47) ?rx47
 case sx47 =>
  have e135 := hd 2 135 _ (by decide) (by kernel_rfl) rfl rfl
  replace e135 : T.getD 135 undef = _ := e135
  rw [if_pos (yab_ _ rfl)]
  have r0 := yae_ hb hx0
  have r1 := yae_ hb hx1
  have r2 := yae_ hb hx2
  have r3 := yae_ hb hx3
  have r4 := yae_ hb hx4
  clear hd hB
  go_simp
  exact hK _ (Below.refl _ _)
 refine DetR.cons (o := { dst := some 137, op := Op.call { callee := Callee.value (Operand.func 64), args := #[Operand.tmp 136], argTypes := #[81] }, type := 78, pos := "law.go:59", after := #[{ on := 3, ground := Ground.data }], guard := none }) (LitTold x) rfl (by decide) (LitTold.grows _) (fun T w' hb hd hB K hK => ?sx48) ?rx48
 case sx48 =>
  have e136 := hd 3 136 _ (by decide) (by kernel_rfl) rfl rfl
  replace e136 : T.getD 136 undef = _ := e136
  rw [if_pos (yab_ _ rfl)]
  have hcl := hF4 w' hb
  clear hd hB
  go_simp
  go_at_call 64
  refine hcl.mono ?_
  rintro e w2 ⟨u, rfl, h1, h2⟩
  exact hK _ _ h2 h1
 refine DetR.cons (o := { dst := some 138, op := Op.call { callee := Callee.value (Operand.func 68), args := #[Operand.tmp 137], argTypes := #[78] }, type := 85, pos := "law.go:59", after := #[{ on := 4, ground := Ground.data }, { on := 4, ground := Ground.chain }], guard := none }) (OrTold x) rfl (by decide) (OrTold.grows _) (fun T w' hb hd hB K hK => ?sx49) ?rx49
 case sx49 =>
  obtain ⟨A137, c137, B137, d137, e137, hL137⟩ := (hd 4 137 _ (by decide) (by kernel_rfl) rfl rfl)
  rw [if_pos (yab_ _ rfl)]
  have hcl := hO w' A137 c137 B137 d137 hb hL137
  clear hd hB
  go_simp
  go_at_call 68
  refine hcl.mono ?_
  rintro e w2 ⟨u, rfl, h1, h2⟩
  exact hK _ _ h2 h1
 refine DetR.is (o := { dst := some 139, op := Op.move (Operand.tmp 2), type := 65, pos := "law.go:59", after := #[], guard := none }) (u := ?ux50) rfl (by decide) (fun T w' hb hd hB K hK => ?sx50) ?rx50
 case sx50 =>
  have e2 := (hB 2 (by kernel_rfl)).trans hT2
  rw [if_pos (yab_ _ rfl)]
  clear hd hB
  go_simp
  exact hK _ (Below.refl _ _)
 refine DetR.is (o := { dst := some 140, op := Op.move (Operand.tmp 11), type := 3, pos := "law.go:59", after := #[], guard := none }) (u := ?ux51) rfl (by decide) (fun T w' hb hd hB K hK => ?sx51) ?rx51
 case sx51 =>
  have e11 := (hB 11 (by kernel_rfl)).trans hT11
  rw [if_pos (yab_ _ rfl)]
  clear hd hB
  go_simp
  exact hK _ (Below.refl _ _)
 refine DetR.is (o := { dst := some 141, op := Op.indexAddr 65 (Operand.tmp 139) (Operand.tmp 140), type := 0, pos := "law.go:59", after := #[{ on := 6, ground := Ground.data }, { on := 7, ground := Ground.data }], guard := none }) (u := .pointer (some (ad.add (i * 5)))) rfl (by decide) (fun T w' hb hd hB K hK => ?sx52) ?rx52
 case sx52 =>
  have e139 := hd 6 139 _ (by decide) (by kernel_rfl) rfl rfl
  replace e139 : T.getD 139 undef = _ := e139
  have e140 := hd 7 140 _ (by decide) (by kernel_rfl) rfl rfl
  replace e140 : T.getD 140 undef = _ := e140
  rw [if_pos (yab_ _ rfl)]
  clear hd hB
  go_simp
  exact hK _ (Below.refl _ _)
 refine DetR.is (o := { dst := some 142, op := Op.load 81 (Operand.tmp 141), type := 81, pos := "law.go:59", after := #[{ on := 8, ground := Ground.data }], guard := none }) (u := .agg #[.bool x.f0, .int .i64 x.f1.f0, .slice xA x.f1.f1.length xc, .int .i64 x.f2.f0, .slice xB x.f2.f1.length xd]) rfl (by decide) (fun T w' hb hd hB K hK => ?sx53) ?rx53
 case sx53 =>
  have e141 := hd 8 141 _ (by decide) (by kernel_rfl) rfl rfl
  replace e141 : T.getD 141 undef = _ := e141
  rw [if_pos (yab_ _ rfl)]
  have r0 := yae_ hb hx0
  have r1 := yae_ hb hx1
  have r2 := yae_ hb hx2
  have r3 := yae_ hb hx3
  have r4 := yae_ hb hx4
  clear hd hB
  go_simp
  exact hK _ (Below.refl _ _)
 refine DetR.cons (o := { dst := some 143, op := Op.call { callee := Callee.value (Operand.func 69), args := #[Operand.tmp 142], argTypes := #[81] }, type := 87, pos := "law.go:59", after := #[{ on := 9, ground := Ground.data }, { on := 5, ground := Ground.chain }], guard := none }) (RowTold (Kd.slice 24 k24) (orientL x.f1 x.f2)) rfl (by decide) (RowTold.grows _ _) (fun T w' hb hd hB K hK => ?sx54) ?rx54
 case sx54 =>
  have e142 := hd 9 142 _ (by decide) (by kernel_rfl) rfl rfl
  replace e142 : T.getD 142 undef = _ := e142
  rw [if_pos (yab_ _ rfl)]
  have hcl := hF10 w' hb
  clear hd hB
  go_simp
  go_at_call 69
  refine hcl.mono ?_
  rintro e w2 ⟨u, rfl, h1, h2⟩
  exact hK _ _ h2 h1
 refine DetR.cons (o := { dst := some 14, op := Op.assign (Operand.tmp 138), type := 85, pos := "law.go:59", after := #[{ on := 5, ground := Ground.data }, { on := 10, ground := Ground.chain }, { on := 0, ground := Ground.phase }, { on := 1, ground := Ground.phase }, { on := 2, ground := Ground.phase }, { on := 3, ground := Ground.phase }, { on := 4, ground := Ground.phase }, { on := 5, ground := Ground.phase }, { on := 6, ground := Ground.textOnly Departure.lateStores }, { on := 7, ground := Ground.textOnly Departure.lateStores }, { on := 8, ground := Ground.textOnly Departure.lateStores }, { on := 9, ground := Ground.textOnly Departure.lateStores }, { on := 10, ground := Ground.textOnly Departure.lateStoresUnsure }], guard := none }) (OrTold x) rfl (by decide) (OrTold.grows _) (fun T w' hb hd hB K hK => ?sx55) ?rx55
 case sx55 =>
  obtain ⟨g138, cs138, A138, c138, B138, d138, e138, p138, q138, s138, hL138⟩ := (hd 5 138 _ (by decide) (by kernel_rfl) rfl rfl)
  rw [if_pos (yab_ _ rfl)]
  clear hd hB
  go_simp
  exact hK _ _ (Below.refl _ _) ⟨g138, cs138, A138, c138, B138, d138, rfl, p138, q138, s138, hL138⟩
 refine DetR.cons (o := { dst := some 15, op := Op.assign (Operand.tmp 143), type := 87, pos := "law.go:59", after := #[{ on := 10, ground := Ground.data }, { on := 11, ground := Ground.chain }, { on := 0, ground := Ground.phase }, { on := 1, ground := Ground.phase }, { on := 2, ground := Ground.phase }, { on := 3, ground := Ground.phase }, { on := 4, ground := Ground.phase }, { on := 5, ground := Ground.phase }, { on := 6, ground := Ground.phase }, { on := 7, ground := Ground.phase }, { on := 8, ground := Ground.phase }, { on := 9, ground := Ground.phase }, { on := 10, ground := Ground.phase }, { on := 11, ground := Ground.phase }], guard := none }) (RowTold (Kd.slice 24 k24) (orientL x.f1 x.f2)) rfl (by decide) (RowTold.grows _ _) (fun T w' hb hd hB K hK => ?sx56) ?rx56
 case sx56 =>
  obtain ⟨A143, c143, e143, hl143, hC143⟩ := (hd 10 143 _ (by decide) (by kernel_rfl) rfl rfl)
  rw [if_pos (yab_ _ rfl)]
  clear hd hB
  go_simp
  exact hK _ _ (Below.refl _ _) ⟨_, _, rfl, by assumption, by assumption⟩
 refine DetR.done [some 133, some 134, some 135, some 136, some 137, some 138, some 139, some 140, some 141, some 142, some 143, some 14, some 15] (by kernel_rfl) rfl (by kernel_rfl) ?_
 intro v w' hb hv
 exact hK v w' hb (hv 11 _ (by decide) rfl) (hv 12 _ (by decide) rfl)
set_option maxHeartbeats 4000000 in
set_option maxRecDepth 100000 in
theorem OrderTells_r35 {id : Nat} {a : Act} {w : World} {Q : Exit → Act → World → Prop} {g on rc rpc k : Nat} {ra rp : Addr} {p q : S30} {pA qA dA eA : Option Addr} {pc qc dc ec : Nat} {cf cg : Int} {cs ct : List S24}
  (hr : regionOk #[{ dst := some 155, op := Op.move (Operand.tmp 14), type := 85, pos := "law.go:64", after := #[], guard := none }, { dst := some 156, op := Op.move (Operand.tmp 16), type := 3, pos := "law.go:64", after := #[], guard := none }, { dst := some 157, op := Op.indexAddr 85 (Operand.tmp 155) (Operand.tmp 156), type := 0, pos := "law.go:64", after := #[{ on := 0, ground := Ground.data }, { on := 1, ground := Ground.data }], guard := none }, { dst := some 158, op := Op.indexAddr 89 (Operand.tmp 157) (Operand.const (Value.int IntKind.i64 0)), type := 0, pos := "law.go:64", after := #[{ on := 2, ground := Ground.data }], guard := none }, { dst := some 159, op := Op.load 30 (Operand.tmp 158), type := 30, pos := "law.go:64", after := #[{ on := 3, ground := Ground.data }], guard := none }, { dst := some 160, op := Op.call { callee := Callee.value (Operand.func 29), args := #[Operand.tmp 159], argTypes := #[30] }, type := 24, pos := "law.go:64", after := #[{ on := 4, ground := Ground.data }], guard := none }, { dst := some 161, op := Op.move (Operand.tmp 15), type := 87, pos := "law.go:64", after := #[], guard := none }, { dst := some 162, op := Op.move (Operand.tmp 16), type := 3, pos := "law.go:64", after := #[], guard := none }, { dst := some 163, op := Op.indexAddr 87 (Operand.tmp 161) (Operand.tmp 162), type := 0, pos := "law.go:64", after := #[{ on := 6, ground := Ground.data }, { on := 7, ground := Ground.data }], guard := none }, { dst := some 164, op := Op.load 22 (Operand.tmp 163), type := 22, pos := "law.go:64", after := #[{ on := 8, ground := Ground.data }], guard := none }, { dst := some 165, op := Op.indexAddr 22 (Operand.tmp 164) (Operand.const (Value.int IntKind.i64 0)), type := 0, pos := "law.go:64", after := #[{ on := 9, ground := Ground.data }], guard := none }, { dst := some 166, op := Op.load 24 (Operand.tmp 165), type := 24, pos := "law.go:64", after := #[{ on := 10, ground := Ground.data }], guard := none }, { dst := some 167, op := Op.call { callee := Callee.value (Operand.func 28), args := #[Operand.tmp 160, Operand.tmp 166], argTypes := #[24, 24] }, type := 4, pos := "law.go:64", after := #[{ on := 5, ground := Ground.data }, { on := 11, ground := Ground.data }, { on := 5, ground := Ground.chain }], guard := none }, { dst := some 168, op := Op.unOp UnOp.not 4 (Operand.tmp 167), type := 4, pos := "law.go:64", after := #[{ on := 12, ground := Ground.data }], guard := none }, { dst := some 169, op := Op.move (Operand.tmp 168), type := 4, pos := "law.go:64", after := #[{ on := 13, ground := Ground.data }, { on := 12, ground := Ground.chain }], guard := none }, { dst := some 170, op := Op.move (Operand.tmp 14), type := 85, pos := "law.go:64", after := #[{ on := 14, ground := Ground.guard }], guard := some (14, false) }, { dst := some 171, op := Op.move (Operand.tmp 16), type := 3, pos := "law.go:64", after := #[{ on := 14, ground := Ground.guard }], guard := some (14, false) }, { dst := some 172, op := Op.indexAddr 85 (Operand.tmp 170) (Operand.tmp 171), type := 0, pos := "law.go:64", after := #[{ on := 15, ground := Ground.data }, { on := 16, ground := Ground.data }, { on := 14, ground := Ground.guard }], guard := some (14, false) }, { dst := some 173, op := Op.indexAddr 89 (Operand.tmp 172) (Operand.const (Value.int IntKind.i64 1)), type := 0, pos := "law.go:64", after := #[{ on := 17, ground := Ground.data }, { on := 14, ground := Ground.guard }], guard := some (14, false) }, { dst := some 174, op := Op.load 30 (Operand.tmp 173), type := 30, pos := "law.go:64", after := #[{ on := 18, ground := Ground.data }, { on := 14, ground := Ground.guard }], guard := some (14, false) }, { dst := some 175, op := Op.call { callee := Callee.value (Operand.func 29), args := #[Operand.tmp 174], argTypes := #[30] }, type := 24, pos := "law.go:64", after := #[{ on := 19, ground := Ground.data }, { on := 14, ground := Ground.chain }, { on := 14, ground := Ground.guard }], guard := some (14, false) }, { dst := some 176, op := Op.move (Operand.tmp 15), type := 87, pos := "law.go:64", after := #[{ on := 14, ground := Ground.guard }], guard := some (14, false) }, { dst := some 177, op := Op.move (Operand.tmp 16), type := 3, pos := "law.go:64", after := #[{ on := 14, ground := Ground.guard }], guard := some (14, false) }, { dst := some 178, op := Op.indexAddr 87 (Operand.tmp 176) (Operand.tmp 177), type := 0, pos := "law.go:64", after := #[{ on := 21, ground := Ground.data }, { on := 22, ground := Ground.data }, { on := 14, ground := Ground.guard }], guard := some (14, false) }, { dst := some 179, op := Op.load 22 (Operand.tmp 178), type := 22, pos := "law.go:64", after := #[{ on := 23, ground := Ground.data }, { on := 14, ground := Ground.guard }], guard := some (14, false) }, { dst := some 180, op := Op.indexAddr 22 (Operand.tmp 179) (Operand.const (Value.int IntKind.i64 1)), type := 0, pos := "law.go:64", after := #[{ on := 24, ground := Ground.data }, { on := 14, ground := Ground.guard }], guard := some (14, false) }, { dst := some 181, op := Op.load 24 (Operand.tmp 180), type := 24, pos := "law.go:64", after := #[{ on := 25, ground := Ground.data }, { on := 14, ground := Ground.guard }], guard := some (14, false) }, { dst := some 182, op := Op.call { callee := Callee.value (Operand.func 28), args := #[Operand.tmp 175, Operand.tmp 181], argTypes := #[24, 24] }, type := 4, pos := "law.go:64", after := #[{ on := 20, ground := Ground.data }, { on := 26, ground := Ground.data }, { on := 20, ground := Ground.chain }, { on := 14, ground := Ground.guard }], guard := some (14, false) }, { dst := some 183, op := Op.unOp UnOp.not 4 (Operand.tmp 182), type := 4, pos := "law.go:64", after := #[{ on := 27, ground := Ground.data }, { on := 14, ground := Ground.guard }], guard := some (14, false) }, { dst := some 184, op := Op.pick (Operand.tmp 169) (Operand.const (Value.bool true)) (Operand.tmp 183), type := 4, pos := "law.go:64", after := #[{ on := 14, ground := Ground.data }, { on := 28, ground := Ground.data }], guard := none }] a.tmps.size = true)
  (hT14 : a.tmps.getD 14 undef = .slice (some ⟨g, 0, none⟩) on 2)
  (hT15 : a.tmps.getD 15 undef = .slice (some ra) on rc)
  (hT16 : a.tmps.getD 16 undef = .int .i64 (k : Int))
  (hF5 : ∀ w1, Below w.heap.size w w1 → Calls Try.prog 29 #[.agg #[.int .i64 p.f0, .slice pA p.f1.length pc]] w1 fun e w2 => ∃ u, e = .returned u ∧ TermTold k24 cf cs u w2 ∧ Below w1.heap.size w1 w2)
  (hF20 : ∀ w1, Below w.heap.size w w1 → Calls Try.prog 29 #[.agg #[.int .i64 q.f0, .slice qA q.f1.length qc]] w1 fun e w2 => ∃ u, e = .returned u ∧ TermTold k24 cg ct u w2 ∧ Below w1.heap.size w1 w2)
  (hk : k < on) (hon : on ≤ 2) (hor : on ≤ rc) (hrp : 2 ≤ rpc)
  (hp0 : w.cell? ⟨g, k * 4, none⟩ = some (.int .i64 p.f0)) (hp1 : w.cell? ⟨g, k * 4 + 1, none⟩ = some (.slice pA p.f1.length pc)) (hq0 : w.cell? ⟨g, k * 4 + 2, none⟩ = some (.int .i64 q.f0)) (hq1 : w.cell? ⟨g, k * 4 + 2 + 1, none⟩ = some (.slice qA q.f1.length qc))
  (hr0 : w.cell? (ra.add k) = some (.slice (some rp) 2 rpc)) (hd0 : w.cell? rp = some (.int .i64 p.f0)) (hd1 : w.cell? ⟨rp.block, rp.off + 1, none⟩ = some (.slice dA p.f1.length dc)) (he0 : w.cell? ⟨rp.block, rp.off + 2, none⟩ = some (.int .i64 q.f0)) (he1 : w.cell? ⟨rp.block, rp.off + 2 + 1, none⟩ = some (.slice eA q.f1.length ec))
  (hS : ∀ (w1 : World) (A : Option Addr) (c : Nat), Below w.heap.size w w1 → cs.length ≤ c → k24.C w1 A cs.length cs → Calls Try.prog 28 #[.agg #[.int .i64 cf, .slice A cs.length c], .agg #[.int .i64 p.f0, .slice dA p.f1.length dc]] w1 fun e w2 => e = .returned (.bool true) ∧ Below w1.heap.size w1 w2)
  (hS' : ∀ (w1 : World) (A : Option Addr) (c : Nat), Below w.heap.size w w1 → ct.length ≤ c → k24.C w1 A ct.length ct → Calls Try.prog 28 #[.agg #[.int .i64 cg, .slice A ct.length c], .agg #[.int .i64 q.f0, .slice eA q.f1.length ec]] w1 fun e w2 => e = .returned (.bool true) ∧ Below w1.heap.size w1 w2)
  (hK : ∀ v w', Below w.heap.size w w' → v 29 = .bool false → Q .normal { tmps := layL [some 155, some 156, some 157, some 158, some 159, some 160, some 161, some 162, some 163, some 164, some 165, some 166, some 167, some 168, some 169, some 170, some 171, some 172, some 173, some 174, some 175, some 176, some 177, some 178, some 179, some 180, some 181, some 182, some 183, some 184] 0 v a.tmps, defers := a.defers } w') :
  (Code.region id #[{ dst := some 155, op := Op.move (Operand.tmp 14), type := 85, pos := "law.go:64", after := #[], guard := none }, { dst := some 156, op := Op.move (Operand.tmp 16), type := 3, pos := "law.go:64", after := #[], guard := none }, { dst := some 157, op := Op.indexAddr 85 (Operand.tmp 155) (Operand.tmp 156), type := 0, pos := "law.go:64", after := #[{ on := 0, ground := Ground.data }, { on := 1, ground := Ground.data }], guard := none }, { dst := some 158, op := Op.indexAddr 89 (Operand.tmp 157) (Operand.const (Value.int IntKind.i64 0)), type := 0, pos := "law.go:64", after := #[{ on := 2, ground := Ground.data }], guard := none }, { dst := some 159, op := Op.load 30 (Operand.tmp 158), type := 30, pos := "law.go:64", after := #[{ on := 3, ground := Ground.data }], guard := none }, { dst := some 160, op := Op.call { callee := Callee.value (Operand.func 29), args := #[Operand.tmp 159], argTypes := #[30] }, type := 24, pos := "law.go:64", after := #[{ on := 4, ground := Ground.data }], guard := none }, { dst := some 161, op := Op.move (Operand.tmp 15), type := 87, pos := "law.go:64", after := #[], guard := none }, { dst := some 162, op := Op.move (Operand.tmp 16), type := 3, pos := "law.go:64", after := #[], guard := none }, { dst := some 163, op := Op.indexAddr 87 (Operand.tmp 161) (Operand.tmp 162), type := 0, pos := "law.go:64", after := #[{ on := 6, ground := Ground.data }, { on := 7, ground := Ground.data }], guard := none }, { dst := some 164, op := Op.load 22 (Operand.tmp 163), type := 22, pos := "law.go:64", after := #[{ on := 8, ground := Ground.data }], guard := none }, { dst := some 165, op := Op.indexAddr 22 (Operand.tmp 164) (Operand.const (Value.int IntKind.i64 0)), type := 0, pos := "law.go:64", after := #[{ on := 9, ground := Ground.data }], guard := none }, { dst := some 166, op := Op.load 24 (Operand.tmp 165), type := 24, pos := "law.go:64", after := #[{ on := 10, ground := Ground.data }], guard := none }, { dst := some 167, op := Op.call { callee := Callee.value (Operand.func 28), args := #[Operand.tmp 160, Operand.tmp 166], argTypes := #[24, 24] }, type := 4, pos := "law.go:64", after := #[{ on := 5, ground := Ground.data }, { on := 11, ground := Ground.data }, { on := 5, ground := Ground.chain }], guard := none }, { dst := some 168, op := Op.unOp UnOp.not 4 (Operand.tmp 167), type := 4, pos := "law.go:64", after := #[{ on := 12, ground := Ground.data }], guard := none }, { dst := some 169, op := Op.move (Operand.tmp 168), type := 4, pos := "law.go:64", after := #[{ on := 13, ground := Ground.data }, { on := 12, ground := Ground.chain }], guard := none }, { dst := some 170, op := Op.move (Operand.tmp 14), type := 85, pos := "law.go:64", after := #[{ on := 14, ground := Ground.guard }], guard := some (14, false) }, { dst := some 171, op := Op.move (Operand.tmp 16), type := 3, pos := "law.go:64", after := #[{ on := 14, ground := Ground.guard }], guard := some (14, false) }, { dst := some 172, op := Op.indexAddr 85 (Operand.tmp 170) (Operand.tmp 171), type := 0, pos := "law.go:64", after := #[{ on := 15, ground := Ground.data }, { on := 16, ground := Ground.data }, { on := 14, ground := Ground.guard }], guard := some (14, false) }, { dst := some 173, op := Op.indexAddr 89 (Operand.tmp 172) (Operand.const (Value.int IntKind.i64 1)), type := 0, pos := "law.go:64", after := #[{ on := 17, ground := Ground.data }, { on := 14, ground := Ground.guard }], guard := some (14, false) }, { dst := some 174, op := Op.load 30 (Operand.tmp 173), type := 30, pos := "law.go:64", after := #[{ on := 18, ground := Ground.data }, { on := 14, ground := Ground.guard }], guard := some (14, false) }, { dst := some 175, op := Op.call { callee := Callee.value (Operand.func 29), args := #[Operand.tmp 174], argTypes := #[30] }, type := 24, pos := "law.go:64", after := #[{ on := 19, ground := Ground.data }, { on := 14, ground := Ground.chain }, { on := 14, ground := Ground.guard }], guard := some (14, false) }, { dst := some 176, op := Op.move (Operand.tmp 15), type := 87, pos := "law.go:64", after := #[{ on := 14, ground := Ground.guard }], guard := some (14, false) }, { dst := some 177, op := Op.move (Operand.tmp 16), type := 3, pos := "law.go:64", after := #[{ on := 14, ground := Ground.guard }], guard := some (14, false) }, { dst := some 178, op := Op.indexAddr 87 (Operand.tmp 176) (Operand.tmp 177), type := 0, pos := "law.go:64", after := #[{ on := 21, ground := Ground.data }, { on := 22, ground := Ground.data }, { on := 14, ground := Ground.guard }], guard := some (14, false) }, { dst := some 179, op := Op.load 22 (Operand.tmp 178), type := 22, pos := "law.go:64", after := #[{ on := 23, ground := Ground.data }, { on := 14, ground := Ground.guard }], guard := some (14, false) }, { dst := some 180, op := Op.indexAddr 22 (Operand.tmp 179) (Operand.const (Value.int IntKind.i64 1)), type := 0, pos := "law.go:64", after := #[{ on := 24, ground := Ground.data }, { on := 14, ground := Ground.guard }], guard := some (14, false) }, { dst := some 181, op := Op.load 24 (Operand.tmp 180), type := 24, pos := "law.go:64", after := #[{ on := 25, ground := Ground.data }, { on := 14, ground := Ground.guard }], guard := some (14, false) }, { dst := some 182, op := Op.call { callee := Callee.value (Operand.func 28), args := #[Operand.tmp 175, Operand.tmp 181], argTypes := #[24, 24] }, type := 4, pos := "law.go:64", after := #[{ on := 20, ground := Ground.data }, { on := 26, ground := Ground.data }, { on := 20, ground := Ground.chain }, { on := 14, ground := Ground.guard }], guard := some (14, false) }, { dst := some 183, op := Op.unOp UnOp.not 4 (Operand.tmp 182), type := 4, pos := "law.go:64", after := #[{ on := 27, ground := Ground.data }, { on := 14, ground := Ground.guard }], guard := some (14, false) }, { dst := some 184, op := Op.pick (Operand.tmp 169) (Operand.const (Value.bool true)) (Operand.tmp 183), type := 4, pos := "law.go:64", after := #[{ on := 14, ground := Ground.data }, { on := 28, ground := Ground.data }], guard := none }] true).wp Try.prog Q a w := by
 have hmx : Try.prog.follows .mixedOrders = true := by kernel_rfl
 refine region_detR 30 hmx hr (by kernel_rfl) ?_
 refine DetR.is (o := { dst := some 155, op := Op.move (Operand.tmp 14), type := 85, pos := "law.go:64", after := #[], guard := none }) (u := ?ux57) rfl (by decide) (fun T w' hb hd hB K hK => ?sx57) ?rx57
 case sx57 =>
  have e14 := (hB 14 (by kernel_rfl)).trans hT14
  rw [if_pos (yab_ _ rfl)]
  clear hd hB
  go_simp
  exact hK _ (Below.refl _ _)
 refine DetR.is (o := { dst := some 156, op := Op.move (Operand.tmp 16), type := 3, pos := "law.go:64", after := #[], guard := none }) (u := ?ux58) rfl (by decide) (fun T w' hb hd hB K hK => ?sx58) ?rx58
 case sx58 =>
  have e16 := (hB 16 (by kernel_rfl)).trans hT16
  rw [if_pos (yab_ _ rfl)]
  clear hd hB
  go_simp
  exact hK _ (Below.refl _ _)
 refine DetR.is (o := { dst := some 157, op := Op.indexAddr 85 (Operand.tmp 155) (Operand.tmp 156), type := 0, pos := "law.go:64", after := #[{ on := 0, ground := Ground.data }, { on := 1, ground := Ground.data }], guard := none }) (u := .pointer (some ⟨g, k * 4, none⟩)) rfl (by decide) (fun T w' hb hd hB K hK => ?sx59) ?rx59
 case sx59 =>
  have e155 := hd 0 155 _ (by decide) (by kernel_rfl) rfl rfl
  replace e155 : T.getD 155 undef = _ := e155
  have e156 := hd 1 156 _ (by decide) (by kernel_rfl) rfl rfl
  replace e156 : T.getD 156 undef = _ := e156
  rw [if_pos (yab_ _ rfl)]
  clear hd hB
  go_simp
  exact hK _ (Below.refl _ _)
 refine DetR.is (o := { dst := some 158, op := Op.indexAddr 89 (Operand.tmp 157) (Operand.const (Value.int IntKind.i64 0)), type := 0, pos := "law.go:64", after := #[{ on := 2, ground := Ground.data }], guard := none }) (u := .pointer (some ⟨g, k * 4, none⟩)) rfl (by decide) (fun T w' hb hd hB K hK => ?sx60) ?rx60
 case sx60 =>
  have e157 := hd 2 157 _ (by decide) (by kernel_rfl) rfl rfl
  replace e157 : T.getD 157 undef = _ := e157
  rw [if_pos (yab_ _ rfl)]
  clear hd hB
  go_simp
  exact hK _ (Below.refl _ _)
 refine DetR.is (o := { dst := some 159, op := Op.load 30 (Operand.tmp 158), type := 30, pos := "law.go:64", after := #[{ on := 3, ground := Ground.data }], guard := none }) (u := .agg #[.int .i64 p.f0, .slice pA p.f1.length pc]) rfl (by decide) (fun T w' hb hd hB K hK => ?sx61) ?rx61
 case sx61 =>
  have e158 := hd 3 158 _ (by decide) (by kernel_rfl) rfl rfl
  replace e158 : T.getD 158 undef = _ := e158
  rw [if_pos (yab_ _ rfl)]
  have r0 := yae_ hb hp0
  have r1 := yae_ hb hp1
  clear hd hB
  go_simp
  exact hK _ (Below.refl _ _)
 refine DetR.cons (o := { dst := some 160, op := Op.call { callee := Callee.value (Operand.func 29), args := #[Operand.tmp 159], argTypes := #[30] }, type := 24, pos := "law.go:64", after := #[{ on := 4, ground := Ground.data }], guard := none }) (TermTold k24 cf cs) rfl (by decide) (TermTold.grows _ _ _) (fun T w' hb hd hB K hK => ?sx62) ?rx62
 case sx62 =>
  have e159 := hd 4 159 _ (by decide) (by kernel_rfl) rfl rfl
  replace e159 : T.getD 159 undef = _ := e159
  rw [if_pos (yab_ _ rfl)]
  have hcl := hF5 w' hb
  clear hd hB
  go_simp
  go_at_call 29
  refine hcl.mono ?_
  rintro e w2 ⟨u, rfl, h1, h2⟩
  exact hK _ _ h2 h1
 refine DetR.is (o := { dst := some 161, op := Op.move (Operand.tmp 15), type := 87, pos := "law.go:64", after := #[], guard := none }) (u := ?ux63) rfl (by decide) (fun T w' hb hd hB K hK => ?sx63) ?rx63
 case sx63 =>
  have e15 := (hB 15 (by kernel_rfl)).trans hT15
  rw [if_pos (yab_ _ rfl)]
  clear hd hB
  go_simp
  exact hK _ (Below.refl _ _)
 refine DetR.is (o := { dst := some 162, op := Op.move (Operand.tmp 16), type := 3, pos := "law.go:64", after := #[], guard := none }) (u := ?ux64) rfl (by decide) (fun T w' hb hd hB K hK => ?sx64) ?rx64
 case sx64 =>
  have e16 := (hB 16 (by kernel_rfl)).trans hT16
  rw [if_pos (yab_ _ rfl)]
  clear hd hB
  go_simp
  exact hK _ (Below.refl _ _)
 refine DetR.is (o := { dst := some 163, op := Op.indexAddr 87 (Operand.tmp 161) (Operand.tmp 162), type := 0, pos := "law.go:64", after := #[{ on := 6, ground := Ground.data }, { on := 7, ground := Ground.data }], guard := none }) (u := .pointer (some (ra.add k))) rfl (by decide) (fun T w' hb hd hB K hK => ?sx65) ?rx65
 case sx65 =>
  have e161 := hd 6 161 _ (by decide) (by kernel_rfl) rfl rfl
  replace e161 : T.getD 161 undef = _ := e161
  have e162 := hd 7 162 _ (by decide) (by kernel_rfl) rfl rfl
  replace e162 : T.getD 162 undef = _ := e162
  rw [if_pos (yab_ _ rfl)]
  clear hd hB
  go_simp
  exact hK _ (Below.refl _ _)
 refine DetR.is (o := { dst := some 164, op := Op.load 22 (Operand.tmp 163), type := 22, pos := "law.go:64", after := #[{ on := 8, ground := Ground.data }], guard := none }) (u := .slice (some rp) 2 rpc) rfl (by decide) (fun T w' hb hd hB K hK => ?sx66) ?rx66
 case sx66 =>
  have e163 := hd 8 163 _ (by decide) (by kernel_rfl) rfl rfl
  replace e163 : T.getD 163 undef = _ := e163
  rw [if_pos (yab_ _ rfl)]
  have r0 := yae_ hb hr0
  clear hd hB
  go_simp
  exact hK _ (Below.refl _ _)
 refine DetR.is (o := { dst := some 165, op := Op.indexAddr 22 (Operand.tmp 164) (Operand.const (Value.int IntKind.i64 0)), type := 0, pos := "law.go:64", after := #[{ on := 9, ground := Ground.data }], guard := none }) (u := .pointer (some rp)) rfl (by decide) (fun T w' hb hd hB K hK => ?sx67) ?rx67
 case sx67 =>
  have e164 := hd 9 164 _ (by decide) (by kernel_rfl) rfl rfl
  replace e164 : T.getD 164 undef = _ := e164
  rw [if_pos (yab_ _ rfl)]
  clear hd hB
  go_simp
  exact hK _ (Below.refl _ _)
 refine DetR.is (o := { dst := some 166, op := Op.load 24 (Operand.tmp 165), type := 24, pos := "law.go:64", after := #[{ on := 10, ground := Ground.data }], guard := none }) (u := .agg #[.int .i64 p.f0, .slice dA p.f1.length dc]) rfl (by decide) (fun T w' hb hd hB K hK => ?sx68) ?rx68
 case sx68 =>
  have e165 := hd 10 165 _ (by decide) (by kernel_rfl) rfl rfl
  replace e165 : T.getD 165 undef = _ := e165
  rw [if_pos (yab_ _ rfl)]
  have r0 := yae_ hb hd0
  have r1 := yae_ hb hd1
  clear hd hB
  go_simp
  exact hK _ (Below.refl _ _)
 refine DetR.is (o := { dst := some 167, op := Op.call { callee := Callee.value (Operand.func 28), args := #[Operand.tmp 160, Operand.tmp 166], argTypes := #[24, 24] }, type := 4, pos := "law.go:64", after := #[{ on := 5, ground := Ground.data }, { on := 11, ground := Ground.data }, { on := 5, ground := Ground.chain }], guard := none }) (u := .bool true) rfl (by decide) (fun T w' hb hd hB K hK => ?sx69) ?rx69
 case sx69 =>
  obtain ⟨A160, c160, e160, hl160, hC160⟩ := (hd 5 160 _ (by decide) (by kernel_rfl) rfl rfl)
  have e166 := hd 11 166 _ (by decide) (by kernel_rfl) rfl rfl
  replace e166 : T.getD 166 undef = _ := e166
  rw [if_pos (yab_ _ rfl)]
  have hcl := hS w' A160 c160 hb hl160 hC160
  clear hd hB
  go_simp
  go_at_call 28
  refine hcl.mono ?_
  rintro e w2 ⟨rfl, h2⟩
  exact hK _ h2
 refine DetR.is (o := { dst := some 168, op := Op.unOp UnOp.not 4 (Operand.tmp 167), type := 4, pos := "law.go:64", after := #[{ on := 12, ground := Ground.data }], guard := none }) (u := .bool false) rfl (by decide) (fun T w' hb hd hB K hK => ?sx70) ?rx70
 case sx70 =>
  have e167 := hd 12 167 _ (by decide) (by kernel_rfl) rfl rfl
  replace e167 : T.getD 167 undef = _ := e167
  rw [if_pos (yab_ _ rfl)]
  clear hd hB
  go_simp
  exact hK _ (Below.refl _ _)
 refine DetR.is (o := { dst := some 169, op := Op.move (Operand.tmp 168), type := 4, pos := "law.go:64", after := #[{ on := 13, ground := Ground.data }, { on := 12, ground := Ground.chain }], guard := none }) (u := .bool false) rfl (by decide) (fun T w' hb hd hB K hK => ?sx71) ?rx71
 case sx71 =>
  have e168 := hd 13 168 _ (by decide) (by kernel_rfl) rfl rfl
  replace e168 : T.getD 168 undef = _ := e168
  rw [if_pos (yab_ _ rfl)]
  clear hd hB
  go_simp
  exact hK _ (Below.refl _ _)
 refine DetR.is (o := { dst := some 170, op := Op.move (Operand.tmp 14), type := 85, pos := "law.go:64", after := #[{ on := 14, ground := Ground.guard }], guard := some (14, false) }) (u := ?ux72) rfl (by decide) (fun T w' hb hd hB K hK => ?sx72) ?rx72
 case sx72 =>
  have e14 := (hB 14 (by kernel_rfl)).trans hT14
  have eg := hd 14 169 _ (by decide) (by kernel_rfl) rfl rfl
  replace eg : T.getD 169 undef = .bool false := eg
  rw [if_pos (yam_ 14 169 false rfl rfl eg)]
  clear eg
  clear hd hB
  go_simp
  exact hK _ (Below.refl _ _)
 refine DetR.is (o := { dst := some 171, op := Op.move (Operand.tmp 16), type := 3, pos := "law.go:64", after := #[{ on := 14, ground := Ground.guard }], guard := some (14, false) }) (u := ?ux73) rfl (by decide) (fun T w' hb hd hB K hK => ?sx73) ?rx73
 case sx73 =>
  have e16 := (hB 16 (by kernel_rfl)).trans hT16
  have eg := hd 14 169 _ (by decide) (by kernel_rfl) rfl rfl
  replace eg : T.getD 169 undef = .bool false := eg
  rw [if_pos (yam_ 14 169 false rfl rfl eg)]
  clear eg
  clear hd hB
  go_simp
  exact hK _ (Below.refl _ _)
 refine DetR.is (o := { dst := some 172, op := Op.indexAddr 85 (Operand.tmp 170) (Operand.tmp 171), type := 0, pos := "law.go:64", after := #[{ on := 15, ground := Ground.data }, { on := 16, ground := Ground.data }, { on := 14, ground := Ground.guard }], guard := some (14, false) }) (u := .pointer (some ⟨g, k * 4, none⟩)) rfl (by decide) (fun T w' hb hd hB K hK => ?sx74) ?rx74
 case sx74 =>
  have e170 := hd 15 170 _ (by decide) (by kernel_rfl) rfl rfl
  replace e170 : T.getD 170 undef = _ := e170
  have e171 := hd 16 171 _ (by decide) (by kernel_rfl) rfl rfl
  replace e171 : T.getD 171 undef = _ := e171
  have eg := hd 14 169 _ (by decide) (by kernel_rfl) rfl rfl
  replace eg : T.getD 169 undef = .bool false := eg
  rw [if_pos (yam_ 14 169 false rfl rfl eg)]
  clear eg
  clear hd hB
  go_simp
  exact hK _ (Below.refl _ _)
 refine DetR.is (o := { dst := some 173, op := Op.indexAddr 89 (Operand.tmp 172) (Operand.const (Value.int IntKind.i64 1)), type := 0, pos := "law.go:64", after := #[{ on := 17, ground := Ground.data }, { on := 14, ground := Ground.guard }], guard := some (14, false) }) (u := .pointer (some ⟨g, k * 4 + 2, none⟩)) rfl (by decide) (fun T w' hb hd hB K hK => ?sx75) ?rx75
 case sx75 =>
  have e172 := hd 17 172 _ (by decide) (by kernel_rfl) rfl rfl
  replace e172 : T.getD 172 undef = _ := e172
  have eg := hd 14 169 _ (by decide) (by kernel_rfl) rfl rfl
  replace eg : T.getD 169 undef = .bool false := eg
  rw [if_pos (yam_ 14 169 false rfl rfl eg)]
  clear eg
  clear hd hB
  go_simp
  exact hK _ (Below.refl _ _)
 refine DetR.is (o := { dst := some 174, op := Op.load 30 (Operand.tmp 173), type := 30, pos := "law.go:64", after := #[{ on := 18, ground := Ground.data }, { on := 14, ground := Ground.guard }], guard := some (14, false) }) (u := .agg #[.int .i64 q.f0, .slice qA q.f1.length qc]) rfl (by decide) (fun T w' hb hd hB K hK => ?sx76) ?rx76
 case sx76 =>
  have e173 := hd 18 173 _ (by decide) (by kernel_rfl) rfl rfl
  replace e173 : T.getD 173 undef = _ := e173
  have eg := hd 14 169 _ (by decide) (by kernel_rfl) rfl rfl
  replace eg : T.getD 169 undef = .bool false := eg
  rw [if_pos (yam_ 14 169 false rfl rfl eg)]
  clear eg
  have r0 := yae_ hb hq0
  have r1 := yae_ hb hq1
  clear hd hB
  go_simp
  exact hK _ (Below.refl _ _)
 refine DetR.cons (o := { dst := some 175, op := Op.call { callee := Callee.value (Operand.func 29), args := #[Operand.tmp 174], argTypes := #[30] }, type := 24, pos := "law.go:64", after := #[{ on := 19, ground := Ground.data }, { on := 14, ground := Ground.chain }, { on := 14, ground := Ground.guard }], guard := some (14, false) }) (TermTold k24 cg ct) rfl (by decide) (TermTold.grows _ _ _) (fun T w' hb hd hB K hK => ?sx77) ?rx77
 case sx77 =>
  have e174 := hd 19 174 _ (by decide) (by kernel_rfl) rfl rfl
  replace e174 : T.getD 174 undef = _ := e174
  have eg := hd 14 169 _ (by decide) (by kernel_rfl) rfl rfl
  replace eg : T.getD 169 undef = .bool false := eg
  rw [if_pos (yam_ 14 169 false rfl rfl eg)]
  clear eg
  have hcl := hF20 w' hb
  clear hd hB
  go_simp
  go_at_call 29
  refine hcl.mono ?_
  rintro e w2 ⟨u, rfl, h1, h2⟩
  exact hK _ _ h2 h1
 refine DetR.is (o := { dst := some 176, op := Op.move (Operand.tmp 15), type := 87, pos := "law.go:64", after := #[{ on := 14, ground := Ground.guard }], guard := some (14, false) }) (u := ?ux78) rfl (by decide) (fun T w' hb hd hB K hK => ?sx78) ?rx78
 case sx78 =>
  have e15 := (hB 15 (by kernel_rfl)).trans hT15
  have eg := hd 14 169 _ (by decide) (by kernel_rfl) rfl rfl
  replace eg : T.getD 169 undef = .bool false := eg
  rw [if_pos (yam_ 14 169 false rfl rfl eg)]
  clear eg
  clear hd hB
  go_simp
  exact hK _ (Below.refl _ _)
 refine DetR.is (o := { dst := some 177, op := Op.move (Operand.tmp 16), type := 3, pos := "law.go:64", after := #[{ on := 14, ground := Ground.guard }], guard := some (14, false) }) (u := ?ux79) rfl (by decide) (fun T w' hb hd hB K hK => ?sx79) ?rx79
 case sx79 =>
  have e16 := (hB 16 (by kernel_rfl)).trans hT16
  have eg := hd 14 169 _ (by decide) (by kernel_rfl) rfl rfl
  replace eg : T.getD 169 undef = .bool false := eg
  rw [if_pos (yam_ 14 169 false rfl rfl eg)]
  clear eg
  clear hd hB
  go_simp
  exact hK _ (Below.refl _ _)
 refine DetR.is (o := { dst := some 178, op := Op.indexAddr 87 (Operand.tmp 176) (Operand.tmp 177), type := 0, pos := "law.go:64", after := #[{ on := 21, ground := Ground.data }, { on := 22, ground := Ground.data }, { on := 14, ground := Ground.guard }], guard := some (14, false) }) (u := .pointer (some (ra.add k))) rfl (by decide) (fun T w' hb hd hB K hK => ?sx80) ?rx80
 case sx80 =>
  have e176 := hd 21 176 _ (by decide) (by kernel_rfl) rfl rfl
  replace e176 : T.getD 176 undef = _ := e176
  have e177 := hd 22 177 _ (by decide) (by kernel_rfl) rfl rfl
  replace e177 : T.getD 177 undef = _ := e177
  have eg := hd 14 169 _ (by decide) (by kernel_rfl) rfl rfl
  replace eg : T.getD 169 undef = .bool false := eg
  rw [if_pos (yam_ 14 169 false rfl rfl eg)]
  clear eg
  clear hd hB
  go_simp
  exact hK _ (Below.refl _ _)
 refine DetR.is (o := { dst := some 179, op := Op.load 22 (Operand.tmp 178), type := 22, pos := "law.go:64", after := #[{ on := 23, ground := Ground.data }, { on := 14, ground := Ground.guard }], guard := some (14, false) }) (u := .slice (some rp) 2 rpc) rfl (by decide) (fun T w' hb hd hB K hK => ?sx81) ?rx81
 case sx81 =>
  have e178 := hd 23 178 _ (by decide) (by kernel_rfl) rfl rfl
  replace e178 : T.getD 178 undef = _ := e178
  have eg := hd 14 169 _ (by decide) (by kernel_rfl) rfl rfl
  replace eg : T.getD 169 undef = .bool false := eg
  rw [if_pos (yam_ 14 169 false rfl rfl eg)]
  clear eg
  have r0 := yae_ hb hr0
  clear hd hB
  go_simp
  exact hK _ (Below.refl _ _)
 refine DetR.is (o := { dst := some 180, op := Op.indexAddr 22 (Operand.tmp 179) (Operand.const (Value.int IntKind.i64 1)), type := 0, pos := "law.go:64", after := #[{ on := 24, ground := Ground.data }, { on := 14, ground := Ground.guard }], guard := some (14, false) }) (u := .pointer (some (rp.add 2))) rfl (by decide) (fun T w' hb hd hB K hK => ?sx82) ?rx82
 case sx82 =>
  have e179 := hd 24 179 _ (by decide) (by kernel_rfl) rfl rfl
  replace e179 : T.getD 179 undef = _ := e179
  have eg := hd 14 169 _ (by decide) (by kernel_rfl) rfl rfl
  replace eg : T.getD 169 undef = .bool false := eg
  rw [if_pos (yam_ 14 169 false rfl rfl eg)]
  clear eg
  clear hd hB
  go_simp
  exact hK _ (Below.refl _ _)
 refine DetR.is (o := { dst := some 181, op := Op.load 24 (Operand.tmp 180), type := 24, pos := "law.go:64", after := #[{ on := 25, ground := Ground.data }, { on := 14, ground := Ground.guard }], guard := some (14, false) }) (u := .agg #[.int .i64 q.f0, .slice eA q.f1.length ec]) rfl (by decide) (fun T w' hb hd hB K hK => ?sx83) ?rx83
 case sx83 =>
  have e180 := hd 25 180 _ (by decide) (by kernel_rfl) rfl rfl
  replace e180 : T.getD 180 undef = _ := e180
  have eg := hd 14 169 _ (by decide) (by kernel_rfl) rfl rfl
  replace eg : T.getD 169 undef = .bool false := eg
  rw [if_pos (yam_ 14 169 false rfl rfl eg)]
  clear eg
  have r0 := yae_ hb he0
  have r1 := yae_ hb he1
  clear hd hB
  go_simp
  exact hK _ (Below.refl _ _)
 refine DetR.is (o := { dst := some 182, op := Op.call { callee := Callee.value (Operand.func 28), args := #[Operand.tmp 175, Operand.tmp 181], argTypes := #[24, 24] }, type := 4, pos := "law.go:64", after := #[{ on := 20, ground := Ground.data }, { on := 26, ground := Ground.data }, { on := 20, ground := Ground.chain }, { on := 14, ground := Ground.guard }], guard := some (14, false) }) (u := .bool true) rfl (by decide) (fun T w' hb hd hB K hK => ?sx84) ?rx84
 case sx84 =>
  obtain ⟨A175, c175, e175, hl175, hC175⟩ := (hd 20 175 _ (by decide) (by kernel_rfl) rfl rfl)
  have e181 := hd 26 181 _ (by decide) (by kernel_rfl) rfl rfl
  replace e181 : T.getD 181 undef = _ := e181
  have eg := hd 14 169 _ (by decide) (by kernel_rfl) rfl rfl
  replace eg : T.getD 169 undef = .bool false := eg
  rw [if_pos (yam_ 14 169 false rfl rfl eg)]
  clear eg
  have hcl := hS' w' A175 c175 hb hl175 hC175
  clear hd hB
  go_simp
  go_at_call 28
  refine hcl.mono ?_
  rintro e w2 ⟨rfl, h2⟩
  exact hK _ h2
 refine DetR.is (o := { dst := some 183, op := Op.unOp UnOp.not 4 (Operand.tmp 182), type := 4, pos := "law.go:64", after := #[{ on := 27, ground := Ground.data }, { on := 14, ground := Ground.guard }], guard := some (14, false) }) (u := .bool false) rfl (by decide) (fun T w' hb hd hB K hK => ?sx85) ?rx85
 case sx85 =>
  have e182 := hd 27 182 _ (by decide) (by kernel_rfl) rfl rfl
  replace e182 : T.getD 182 undef = _ := e182
  have eg := hd 14 169 _ (by decide) (by kernel_rfl) rfl rfl
  replace eg : T.getD 169 undef = .bool false := eg
  rw [if_pos (yam_ 14 169 false rfl rfl eg)]
  clear eg
  clear hd hB
  go_simp
  exact hK _ (Below.refl _ _)
 refine DetR.is (o := { dst := some 184, op := Op.pick (Operand.tmp 169) (Operand.const (Value.bool true)) (Operand.tmp 183), type := 4, pos := "law.go:64", after := #[{ on := 14, ground := Ground.data }, { on := 28, ground := Ground.data }], guard := none }) (u := .bool false) rfl (by decide) (fun T w' hb hd hB K hK => ?sx86) ?rx86
 case sx86 =>
  have e169 := hd 14 169 _ (by decide) (by kernel_rfl) rfl rfl
  replace e169 : T.getD 169 undef = _ := e169
  have e183 := hd 28 183 _ (by decide) (by kernel_rfl) rfl rfl
  replace e183 : T.getD 183 undef = _ := e183
  rw [if_pos (yab_ _ rfl)]
  clear hd hB
  go_simp
  exact hK _ (Below.refl _ _)
 refine DetR.done [some 155, some 156, some 157, some 158, some 159, some 160, some 161, some 162, some 163, some 164, some 165, some 166, some 167, some 168, some 169, some 170, some 171, some 172, some 173, some 174, some 175, some 176, some 177, some 178, some 179, some 180, some 181, some 182, some 183, some 184] (by kernel_rfl) rfl (by kernel_rfl) ?_
 intro v w' hb hv
 exact hK v w' hb (hv 29 _ (by decide) rfl)
end
section
theorem terms_head {W : World} {x : S78} {A : Option Addr} (hC : k30.C W A (termsT x).length (termsT x)) : ∃ ta B e, A = some ta ∧ W.cell? ta = some (.int .i64 x.f1.f0) ∧ W.cell? ⟨ta.block, ta.off + 1, none⟩ = some (.slice B x.f1.f1.length e) ∧ x.f1.f1.length ≤ e ∧ k30.C W B x.f1.f1.length x.f1.f1 := by
 have hl : 0 < (termsT x).length := by unfold termsT; split <;> simp
 obtain ⟨ad, B, e, h0, h1, h2, h3, h4⟩ := at_T30 hC 0 (by omega) (by omega)
 have hrd : rd_T30 (termsT x) 0 = x.f1 := by unfold termsT rd_T30; split <;> rfl
 rw [hrd] at h1 h2 h3 h4
 have e0 : ad.add ((0 : Int).toNat * 2) = ad := by cases ad; simp [Addr.add]
 rw [e0] at h1 h2
 exact ⟨ad, B, e, h0, h1, h2, h3, h4⟩
theorem rt_told {W : World} {x : S81} {A B : Option Addr} {c e : Nat} (h : LitD W x A c B e) : ∀ w1, Below W.heap.size W w1 → Calls Try.prog 65 #[.agg #[.bool x.f0, .int .i64 x.f1.f0, .slice A x.f1.f1.length c, .int .i64 x.f2.f0, .slice B x.f2.f1.length e]] w1 fun r w2 => ∃ u, r = .returned u ∧ RowTold k24 (termsT x) u w2 ∧ Below w1.heap.size w1 w2 :=
 fun w1 hb => (RTerms_calls (h.below hb)).mono (fun r w2 ⟨A', c', h1, h2, h3, h4⟩ => ⟨_, h1, ⟨A', c', rfl, h2, h3⟩, h4⟩)
theorem to_told {W : World} {t : S30} (hf : fit t) {A : Option Addr} {c : Nat} (hA : k30.C W A t.f1.length t.f1) (hc : t.f1.length ≤ c) : ∀ w1, Below W.heap.size W w1 → Calls Try.prog 29 #[.agg #[.int .i64 t.f0, .slice A t.f1.length c]] w1 fun r w2 => ∃ u, r = .returned u ∧ TermTold k24 (cloneT t).f0 (cloneT t).f1 u w2 ∧ Below w1.heap.size w1 w2 :=
 fun w1 hb => (To_calls hf (Kd.C_below hA hb) hc).mono (fun r w2 ⟨A', c', h1, h2, h3, h4⟩ => ⟨_, h1, ⟨A', c', rfl, h2, h3⟩, h4⟩)
theorem eqv_nums1 : ∀ a b : S30, cmpT a b = 0 → (nodes a).map (·.f0) = (nodes b).map (·.f0) := by
 refine S30.ind ?_
 intro f l ih b h
 obtain ⟨g, m⟩ := b
 obtain ⟨rfl, h2⟩ := cmp_zero h
 by_cases hf : f < 0
 ·simp [nodes, hf]
 ·obtain ⟨h3, h4⟩ := h2 hf
  have key : ∀ (l m : List S30), (∀ x ∈ l, ∀ y, cmpT x y = 0 → (nodes x).map (·.f0) = (nodes y).map (·.f0)) → l.length = m.length → cmpTs l m = 0 → (nodess l).map (·.f0) = (nodess m).map (·.f0) := by
   intro l
   induction l with
   | nil => intro m _ hl _; cases m with
    | nil => rfl
    | cons => simp at hl
   | cons x l ihl =>
    intro m h hl hc
    cases m with
    | nil => simp at hl
    | cons y m =>
     rw [cmpTs] at hc
     split at hc
     ·rename_i h0
      rw [nodess, nodess, List.map_append, List.map_append, h x (by simp) y h0, ihl m (fun x hx => h x (by simp [hx])) (by simpa using hl) hc]
     ·rename_i h0; contradiction
  have := key l m (fun x hx y => ih x hx y) h3 h4
  simp [nodes, hf, this]
theorem fit_clone (a : S30) (ha : fit a) : fit (cloneT a) := by
 have h0 := cmp_clone a
 have h1 := eqv_nums1 (cloneT a) a h0
 refine ⟨by rw [cmp_len _ _ h0]; exact ha.1, fun x hx => ?_⟩
 have h2 : x.f0 ∈ (nodes (cloneT a)).map (·.f0) := List.mem_map_of_mem hx
 rw [h1, List.mem_map] at h2
 obtain ⟨y, hy, e⟩ := h2
 rw [← e]
 exact ha.2 y hy
theorem same_told {W : World} {t : S30} (hf : fit t) {B : Option Addr} {e : Nat} (hB : k24.C W B t.f1.length t.f1) (he : t.f1.length ≤ e) : ∀ (w1 : World) (A : Option Addr) (c : Nat), Below W.heap.size W w1 → (cloneT t).f1.length ≤ c → k24.C w1 A (cloneT t).f1.length (cloneT t).f1 → Calls Try.prog 28 #[.agg #[.int .i64 (cloneT t).f0, .slice A (cloneT t).f1.length c], .agg #[.int .i64 t.f0, .slice B t.f1.length e]] w1 fun r w2 => r = .returned (.bool true) ∧ Below w1.heap.size w1 w2 := by
 intro w1 A c hb hc hC
 have h := Same_calls (x := cloneT t) (y := t) (fit_clone t hf) hC hc (Kd.C_below hB hb) he
 rw [cmp_clone t] at h
 exact h
theorem lit_told {W : World} {x : S81} (hx : ok x.f1 ∧ ok x.f2) {A B : Option Addr} {c e : Nat} (h : LitD W x A c B e) : ∀ w1, Below W.heap.size W w1 → Calls Try.prog 64 #[.agg #[.bool x.f0, .int .i64 x.f1.f0, .slice A x.f1.f1.length c, .int .i64 x.f2.f0, .slice B x.f2.f1.length e]] w1 fun r w2 => ∃ u, r = .returned u ∧ LitTold x u w2 ∧ Below w1.heap.size w1 w2 :=
 fun w1 hb => (lit_calls hx (h.below hb)).mono (fun r w2 ⟨A', c', B', e', h1, h2, h3⟩ => ⟨_, h1, ⟨A', c', B', e', rfl, h2⟩, h3⟩)
theorem or_told {W : World} {x : S78} (hx : fitL x) : ∀ (w1 : World) (A : Option Addr) (c : Nat) (B : Option Addr) (d : Nat), Below W.heap.size W w1 → LitP w1 x A c B d → Calls Try.prog 68 #[.agg #[.bool x.f0, .int .i64 x.f1.f0, .slice A x.f1.f1.length c, .int .i64 x.f2.f0, .slice B x.f2.f1.length d]] w1 fun r w2 => ∃ u, r = .returned u ∧ OrTold x u w2 ∧ Below w1.heap.size w1 w2 :=
 fun w1 A c B d hb h => (Orient_calls hx h).mono (fun r w2 ⟨g, cs, h1, h2, h3, h4, h5, h6⟩ => ⟨_, h1, ⟨g, cs, A, c, B, d, rfl, h4, h5, h6, h.below h3⟩, h3⟩)
theorem ror_told {W : World} {x : S81} (hx : fitL x) {A B : Option Addr} {c e : Nat} (h : LitD W x A c B e) : ∀ w1, Below W.heap.size W w1 → Calls Try.prog 69 #[.agg #[.bool x.f0, .int .i64 x.f1.f0, .slice A x.f1.f1.length c, .int .i64 x.f2.f0, .slice B x.f2.f1.length e]] w1 fun r w2 => ∃ u, r = .returned u ∧ (RowTold (Kd.slice 24 k24) (orientL x.f1 x.f2)) u w2 ∧ Below w1.heap.size w1 w2 :=
 fun w1 hb => (ROrient_calls hx (h.below hb)).mono (fun r w2 ⟨A', c', h1, h2, h3, h4⟩ => ⟨_, h1, ⟨A', c', rfl, h2, h3⟩, h4⟩)
end
section
theorem pair_doc {W : World} {RA : Option Addr} {ol : List (List S24)} (hC : (Kd.slice 24 k24).C W RA ol.length ol) (m : Nat) (p q : S24) (h : ol[m]? = some [p, q]) : ∃ ra rp rpc dA dc eA ec, RA = some ra ∧ W.cell? (ra.add m) = some (.slice (some rp) 2 rpc) ∧ 2 ≤ rpc ∧ W.cell? rp = some (.int .i64 p.f0) ∧ W.cell? ⟨rp.block, rp.off + 1, none⟩ = some (.slice dA p.f1.length dc) ∧ W.cell? ⟨rp.block, rp.off + 2, none⟩ = some (.int .i64 q.f0) ∧ W.cell? ⟨rp.block, rp.off + 2 + 1, none⟩ = some (.slice eA q.f1.length ec) ∧ p.f1.length ≤ dc ∧ k24.C W dA p.f1.length p.f1 ∧ q.f1.length ≤ ec ∧ k24.C W eA q.f1.length q.f1 := by
 have hl := (List.getElem?_eq_some_iff.1 h).1
 obtain ⟨ra, A0, c0, hRA, hc, hle, hK⟩ := at_L13 hC (m : Int) (by omega) (by omega)
 have hrd : rd_L13 ol (m : Int) = [p, q] := by unfold rd_L13; rw [Int.toNat_natCast, List.getD_eq_getElem?_getD, h]; rfl
 rw [hrd] at hc hle hK
 rw [Int.toNat_natCast] at hc
 obtain ⟨rp, dA, dc, hA0, p0, p1, p2, p3⟩ := at_T24 hK 0 (by simp) (by simp)
 obtain ⟨rp', eA, ec, hA1, q0, q1, q2, q3⟩ := at_T24 hK 1 (by simp) (by simp)
 rw [hA0] at hA1
 injection hA1 with hA1
 subst hA1
 subst hA0
 have e0 : rp.add ((0 : Int).toNat * 2) = rp := by cases rp; simp [Addr.add]
 rw [e0] at p0 p1
 have e2 : rp.add ((1 : Int).toNat * 2) = ⟨rp.block, rp.off + 2, none⟩ := rfl
 rw [e2] at q0 q1
 exact ⟨ra, rp, c0, dA, dc, eA, ec, hRA, hc, hle, p0, p1, q0, q1, p2, p3, q2, q3⟩
theorem pair_prog {x : S78} {cs : Array Value} {A B : Option Addr} {c d : Nat} (hcells : ∀ t, t < (orientL x.f1 x.f2).length * 4 → cs[t]? = (left2 (decide (kcmp x.f1 x.f2 < 1)) (decide (kcmp x.f2 x.f1 < 1)) [.int .i64 x.f1.f0, .slice A x.f1.f1.length c, .int .i64 x.f2.f0, .slice B x.f2.f1.length d] [.int .i64 x.f2.f0, .slice B x.f2.f1.length d, .int .i64 x.f1.f0, .slice A x.f1.f1.length c])[t]?) (m : Nat) (hm : m < (orientL x.f1 x.f2).length) :
  ∃ p q pA pc qA qc, (orientL x.f1 x.f2)[m]? = some [p, q] ∧ cs[m * 4]? = some (.int .i64 p.f0) ∧ cs[m * 4 + 1]? = some (.slice pA p.f1.length pc) ∧ cs[m * 4 + 2]? = some (.int .i64 q.f0) ∧ cs[m * 4 + 2 + 1]? = some (.slice qA q.f1.length qc) ∧ ((p = x.f1 ∧ q = x.f2 ∧ pA = A ∧ pc = c ∧ qA = B ∧ qc = d) ∨ (p = x.f2 ∧ q = x.f1 ∧ pA = B ∧ pc = d ∧ qA = A ∧ qc = c)) := by
 have h0 := hcells (m * 4) (by omega)
 have h1 := hcells (m * 4 + 1) (by omega)
 have h2 := hcells (m * 4 + 2) (by omega)
 have h3 := hcells (m * 4 + 2 + 1) (by omega)
 clear hcells
 unfold orientL at hm ⊢
 unfold left2 at h0 h1 h2 h3
 by_cases b1 : kcmp x.f1 x.f2 < 1 <;> by_cases b2 : kcmp x.f2 x.f1 < 1 <;> simp [b1, b2] at hm h0 h1 h2 h3
 ·subst hm
  refine ⟨x.f2, x.f1, B, d, A, c, by simp [b1, b2], by simpa using h0, by simpa using h1, by simpa using h2, by simpa using h3, .inr ⟨rfl, rfl, rfl, rfl, rfl, rfl⟩⟩
 ·subst hm
  refine ⟨x.f1, x.f2, A, c, B, d, by simp [b1, b2], by simpa using h0, by simpa using h1, by simpa using h2, by simpa using h3, .inl ⟨rfl, rfl, rfl, rfl, rfl, rfl⟩⟩
 ·rcases (show m = 0 ∨ m = 1 by omega) with rfl | rfl
  ·refine ⟨x.f1, x.f2, A, c, B, d, by simp [b1, b2], by simpa using h0, by simpa using h1, by simpa using h2, by simpa using h3, .inl ⟨rfl, rfl, rfl, rfl, rfl, rfl⟩⟩
  ·refine ⟨x.f2, x.f1, B, d, A, c, by simp [b1, b2], by simpa using h0, by simpa using h1, by simpa using h2, by simpa using h3, .inr ⟨rfl, rfl, rfl, rfl, rfl, rfl⟩⟩
end
section
set_option maxHeartbeats 8000000 in
set_option maxRecDepth 100000 in
theorem OrderTells_walk (a b : List S24) (l : List S81) (A B C : Option Addr) (ca cb cc : Nat) (w : World) (hA : k24.C w A a.length a) (hca : a.length ≤ ca) (hB : k24.C w B b.length b) (hcb : b.length ≤ cb) (hC : k81.C w C l.length l) (hcc : l.length ≤ cc) :
  Calls Try.prog 17 #[.slice A a.length ca, .slice B b.length cb, .slice C l.length cc] w fun e w' => e = .returned (.bool true) ∧ Below w.heap.size w w' := by
 have hmx : Try.prog.follows .mixedOrders = true := by kernel_rfl
 obtain ⟨vc, hvc, hokc⟩ := Fine11_spec l 4 12 (by decide) (by decide)
 obtain ⟨k1, e1⟩ := hvc.rounds
 obtain ⟨kz, hal⟩ := alive14.rounds
 have FS := Az_.mk (show soriteslaw11_Fine.f k1 l 4 12 = some vc from e1)
 have hbA : Az_ (∀ w1, Below w.heap.size w w1 → k24.C w1 A a.length a) := ⟨fun w1 h => Kd.C_below hA h⟩
 have hbB : Az_ (∀ w1, Below w.heap.size w w1 → k24.C w1 B b.length b) := ⟨fun w1 h => Kd.C_below hB h⟩
 have hbC : Az_ (∀ w1, Below w.heap.size w w1 → k81.C w1 C l.length l) := ⟨fun w1 h => Kd.C_below hC h⟩
 clear hA hB hC hvc e1
 go_enter Try.func17, Try.ntmps17
 by_cases ha : 6 < a.length
 ·have d0 : decide (6 < (a.length : Int)) = true := decide_eq_true (by omega)
  clear ha
  go_wp2_with (go_at_call 54; refine (soriteslaw14_alive.calls kz true _ hal).mono ?_; rintro e w1 ⟨rfl, hb⟩; have hB1 : Below w.heap.size w w1 := hb; clear hb)
  go_ret
  exact ⟨rfl, hB1⟩
 have d0 : decide (6 < (a.length : Int)) = false := decide_eq_false (by omega)
 by_cases hbl : 6 < b.length
 ·have d1 : decide (6 < (b.length : Int)) = true := decide_eq_true (by omega)
  clear ha hbl
  go_wp2_with (go_at_call 54; refine (soriteslaw14_alive.calls kz true _ hal).mono ?_; rintro e w1 ⟨rfl, hb⟩; have hB1 : Below w.heap.size w w1 := hb; clear hb)
  go_ret
  exact ⟨rfl, hB1⟩
 have d1 : decide (6 < (b.length : Int)) = false := decide_eq_false (by omega)
 cases vc with
 | false =>
  clear ha hbl
  go_wp2_with (first | (go_at_call 55; refine (soriteslaw11_Fine.calls k1 _ _ l 4 12 _ _ (hbC.out _ hB1) hcc FS.out).mono ?_; rintro e w2 ⟨rfl, hb⟩; have hB2 := Az_.mk (show Below w.heap.size w w2 from hB1.trans (hb.mono hB1.size)); clear hb) | (go_at_call 54; refine (soriteslaw14_alive.calls kz true _ hal).mono ?_; rintro e w1 ⟨rfl, hb⟩; have hB1 : Below w.heap.size w w1 := hb; clear hb))
  go_ret
  exact ⟨rfl, hB2.out⟩
 | true =>
 have HL := Az_.mk (hokc rfl)
 have HAL := Az_.mk (And.intro ha hbl)
 clear hokc ha hbl
 go_wp2_with (first | (go_at_call 55; refine (soriteslaw11_Fine.calls k1 _ _ l 4 12 _ _ (hbC.out _ hB1) hcc FS.out).mono ?_; rintro e w2 ⟨rfl, hb⟩; have hB2 := Az_.mk (show Below w.heap.size w w2 from hB1.trans (hb.mono hB1.size)); clear hb) | (go_at_call 54; refine (soriteslaw14_alive.calls kz true _ hal).mono ?_; rintro e w1 ⟨rfl, hb⟩; have hB1 : Below w.heap.size w w1 := hb; clear hb))
 clear hB1 d0 d1
 go_loopw [7, 9] (fun v i wra => ∃ (u : Value) (k : Nat), u = v ∧ k ≤ a.length ∧ i = .int .i64 k ∧ Az_ (∀ x, x ∈ a.take k → ok x ∧ wt x ≤ 12) ∧ Az_ (Own30 w2 wra v (a.take k))) (fun v i wra => a.length - (intOf i).toNat)
 case atStart => exact ⟨_, 0, rfl, Nat.zero_le _, rfl, ⟨fun x hx => by simp at hx⟩, ⟨by rw [List.take_zero]; exact Own30.nil _⟩⟩
 rename World => wra
 obtain ⟨u, k, hu, hk, rfl, hs, ho⟩ := hrel
 subst hu
 have hbw := Az_.mk (show Below w.heap.size w wra from hB2.out.trans (ho.out.2.mono hB2.out.size))
 by_cases hlt : k < a.length
 ·obtain ⟨t, ht0⟩ : ∃ t, a[k]? = some t := ⟨_, List.getElem?_eq_getElem hlt⟩
  have ht := Az_.mk ht0
  obtain ⟨r, hr, hr1, hr2, hr3⟩ := Small_spec 9 t 12 8 (by decide) (by decide) (by decide) (by decide)
  obtain ⟨k2, e2⟩ := hr.rounds
  obtain ⟨ad, Bk, ek, hAe, x0, x1, hle, hCk⟩ := term_at (hbA.out _ hbw.out) k t ht0
  subst hAe
  have hcl := Az_.mk (soriteslaw06_Small.calls k2 _ _ _ _ 12 8 r wra hCk hle e2)
  clear hCk hle e2 hr ht0
  by_cases hneg : r < 0
  ·have dn : decide (r < 0) = true := decide_eq_true hneg
   clear hneg hr1 hr2 hr3
   go_wp2_with (go_at_call 50; refine hcl.out.mono ?_; rintro e w3 ⟨rfl, hb⟩; have hB3 := Az_.mk (hbw.out.trans (hb.mono hbw.out.size)); clear hb)
   go_ret
   exact ⟨rfl, hB3.out⟩
  ·have dn : decide (r < 0) = false := decide_eq_false hneg
   have hok := hr3 (by omega)
   obtain ⟨k3, e3⟩ := (Of_spec t hok.1).rounds
   have HOK := Az_.mk (And.intro e3 (And.intro hok.1 (show wt t ≤ 12 by omega)))
   clear hneg hr1 hr2 hr3 hok e3
   go_wp2_with (first | ((with_reducible refine gate_builtin (b := .append) (xs := #[.tmp 44, .tmp 50]) rfl ?_); at_builtin; refine Kd.N_append k30 (w0 := w2) w2.heap.size rfl (.tmp 44) (.tmp 50) 28 30 (.agg #[(.int .i64 0), (.slice none 0 0)]) 32 rfl Try.underlying28 info30 rfl (by decide) (by omega) u (a.take k) t [.int .i64 t.f0, .slice Ao t.f1.length co] (fun k_ => w2.heap.size ≤ k_) (fun k_ => w2.heap.size ≤ k_ ∧ some k_ ≠ u.ownBlock) rfl rfl hEL.out (fun _ hk => hk) (fun _ hk => Nat.le_trans HO4.out.2.size hk) HO4.out.1 HO4.out.2 HO4.out.2.size (by have := List.length_take_le k a; have := HAL.out.1; omega) ?_; intro v5 w5 ho5 hb5 _ _; have HO5 := Az_.mk (And.intro ho5 hb5); clear ho5 hb5) | (go_at_call 22; refine (soriteslaw06_Of.calls k3 _ _ _ t.f1 t.f0 t.f1 _ HC'.out.2 HC'.out.1 HOK.out.1).mono ?_; rintro e w4 ⟨v1, rfl, hR, hb⟩; obtain ⟨Ao, co, rfl, _⟩ := Kd.R_V (base' := 0) hR; have hEL := Az_.mk (HO3.out.elem hR).2.2; have HO4 := Az_.mk (HO3.out.below hb); clear hR hb) | (go_at_call 50; refine hcl.out.mono ?_; rintro e w3 ⟨rfl, hb⟩; have hB3 := Az_.mk (hbw.out.trans (hb.mono hbw.out.size)); have HO3 := Az_.mk (ho.out.below hb); clear hb; obtain ⟨ad', B', e', hAe', y0, y1, hle', hC'⟩ := term_at (hbA.out w3 hB3.out) k t ht.out; injection hAe' with hAe'; subst hAe'; have HC' := Az_.mk (And.intro hle' hC'); clear hle' hC'))
   go_roundw
   case rel =>
    have h6 := HAL.out.1
    refine ⟨_, k + 1, rfl, by omega, by rw [wrap_nat k (by omega)], ⟨fun x hx => ?_⟩, ⟨?_⟩⟩
    ·rw [List.take_add_one, ht.out] at hx
     rcases List.mem_append.1 hx with h | h
     ·exact hs.out x h
     ·simp at h; rw [h]; exact HOK.out.2
    ·rw [List.take_add_one, ht.out]
     exact HO5.out
   case measure =>
    have h6 := HAL.out.1
    rw [wrap_nat k (by omega)]
    simp [intOf]; omega
 have hke : k = a.length := by omega
 subst hke
 have hs' := hs.out
 have ho' := ho.out
 rw [List.take_length] at hs' ho'
 obtain ⟨Xa, cxa, hu, hcxa, hX⟩ := ho'.reads
 subst hu
 have HSa := Az_.mk hs'
 have HXa := Az_.mk hX
 have HBa := hbw
 have HOa := Az_.mk ho.out.2
 clear hlt hk hs ho hs' ho' hX hbw
 go_wp2
 go_loopw [8, 10] (fun v i wrb => ∃ (u : Value) (k : Nat), u = v ∧ k ≤ b.length ∧ i = .int .i64 k ∧ Az_ (∀ x, x ∈ b.take k → ok x ∧ wt x ≤ 12) ∧ Az_ (Own30 wra wrb v (b.take k))) (fun v i wrb => b.length - (intOf i).toNat)
 case atStart => exact ⟨_, 0, rfl, Nat.zero_le _, rfl, ⟨fun x hx => by simp at hx⟩, ⟨by rw [List.take_zero]; exact Own30.nil _⟩⟩
 rename World => wrb
 obtain ⟨u, k, hu, hk, rfl, hs, ho⟩ := hrel
 subst hu
 have hbw := Az_.mk (show Below w.heap.size w wrb from HBa.out.trans (ho.out.2.mono HBa.out.size))
 by_cases hlt : k < b.length
 ·obtain ⟨t, ht0⟩ : ∃ t, b[k]? = some t := ⟨_, List.getElem?_eq_getElem hlt⟩
  have ht := Az_.mk ht0
  obtain ⟨r, hr, hr1, hr2, hr3⟩ := Small_spec 9 t 12 8 (by decide) (by decide) (by decide) (by decide)
  obtain ⟨k2, e2⟩ := hr.rounds
  obtain ⟨ad, Bk, ek, hAe, x0, x1, hle, hCk⟩ := term_at (hbB.out _ hbw.out) k t ht0
  subst hAe
  have hcl := Az_.mk (soriteslaw06_Small.calls k2 _ _ _ _ 12 8 r wrb hCk hle e2)
  clear hCk hle e2 hr ht0
  by_cases hneg : r < 0
  ·have dn : decide (r < 0) = true := decide_eq_true hneg
   clear hneg hr1 hr2 hr3
   go_wp2_with (go_at_call 50; refine hcl.out.mono ?_; rintro e w3 ⟨rfl, hb⟩; have hB3 := Az_.mk (hbw.out.trans (hb.mono hbw.out.size)); clear hb)
   go_ret
   exact ⟨rfl, hB3.out⟩
  ·have dn : decide (r < 0) = false := decide_eq_false hneg
   have hok := hr3 (by omega)
   obtain ⟨k3, e3⟩ := (Of_spec t hok.1).rounds
   have HOK := Az_.mk (And.intro e3 (And.intro hok.1 (show wt t ≤ 12 by omega)))
   clear hneg hr1 hr2 hr3 hok e3
   go_wp2_with (first | ((with_reducible refine gate_builtin (b := .append) (xs := #[.tmp 64, .tmp 70]) rfl ?_); at_builtin; refine Kd.N_append k30 (w0 := wra) wra.heap.size rfl (.tmp 64) (.tmp 70) 28 30 (.agg #[(.int .i64 0), (.slice none 0 0)]) 32 rfl Try.underlying28 info30 rfl (by decide) (by omega) u (b.take k) t [.int .i64 t.f0, .slice Ao t.f1.length co] (fun k_ => wra.heap.size ≤ k_) (fun k_ => wra.heap.size ≤ k_ ∧ some k_ ≠ u.ownBlock) rfl rfl hEL.out (fun _ hk => hk) (fun _ hk => Nat.le_trans HO4.out.2.size hk) HO4.out.1 HO4.out.2 HO4.out.2.size (by have := List.length_take_le k b; have := HAL.out.2; omega) ?_; intro v5 w5 ho5 hb5 _ _; have HO5 := Az_.mk (And.intro ho5 hb5); clear ho5 hb5) | (go_at_call 22; refine (soriteslaw06_Of.calls k3 _ _ _ t.f1 t.f0 t.f1 _ HC'.out.2 HC'.out.1 HOK.out.1).mono ?_; rintro e w4 ⟨v1, rfl, hR, hb⟩; obtain ⟨Ao, co, rfl, _⟩ := Kd.R_V (base' := 0) hR; have hEL := Az_.mk (HO3.out.elem hR).2.2; have HO4 := Az_.mk (HO3.out.below hb); clear hR hb) | (go_at_call 50; refine hcl.out.mono ?_; rintro e w3 ⟨rfl, hb⟩; have hB3 := Az_.mk (hbw.out.trans (hb.mono hbw.out.size)); have HO3 := Az_.mk (ho.out.below hb); clear hb; obtain ⟨ad', B', e', hAe', y0, y1, hle', hC'⟩ := term_at (hbB.out w3 hB3.out) k t ht.out; injection hAe' with hAe'; subst hAe'; have HC' := Az_.mk (And.intro hle' hC'); clear hle' hC'))
   go_roundw
   case rel =>
    have h6 := HAL.out.2
    refine ⟨_, k + 1, rfl, by omega, by rw [wrap_nat k (by omega)], ⟨fun x hx => ?_⟩, ⟨?_⟩⟩
    ·rw [List.take_add_one, ht.out] at hx
     rcases List.mem_append.1 hx with h | h
     ·exact hs.out x h
     ·simp at h; rw [h]; exact HOK.out.2
    ·rw [List.take_add_one, ht.out]
     exact HO5.out
   case measure =>
    have h6 := HAL.out.2
    rw [wrap_nat k (by omega)]
    simp [intOf]; omega
 have hke : k = b.length := by omega
 subst hke
 have hs' := hs.out
 have ho' := ho.out
 rw [List.take_length] at hs' ho'
 obtain ⟨Xb, cxb, hu, hcxb, hX⟩ := ho'.reads
 subst hu
 have HSb := Az_.mk hs'
 have HXb := Az_.mk hX
 have HBb := hbw
 have HOb := Az_.mk ho.out.2
 clear hlt hk hs ho hs' ho' hX hbw
 have KXa : Az_ (∀ W, Below wrb.heap.size wrb W → k30.C W Xa a.length a) := ⟨fun W h => Kd.C_below (Kd.C_below HXa.out HOb.out) h⟩
 have KXb : Az_ (∀ W, Below wrb.heap.size wrb W → k30.C W Xb b.length b) := ⟨fun W h => Kd.C_below HXb.out h⟩
 have hbC' : Az_ (∀ W, Below wrb.heap.size wrb W → k81.C W C l.length l) := ⟨fun W h => hbC.out W (HBb.out.trans (h.mono HBb.out.size))⟩
 clear HXa HXb hbC
 go_wp2
 go_loopw [11] (fun i wr => ∃ k : Nat, k ≤ l.length ∧ i = .int .i64 k ∧ Az_ (Below wrb.heap.size wrb wr)) (fun i wr => l.length - (intOf i).toNat)
 case atStart => exact ⟨0, Nat.zero_le _, rfl, ⟨Below.refl _ _⟩⟩
 rename World => wrc
 obtain ⟨k, hk, rfl, hbw⟩ := hrel
 by_cases hlt : k < l.length
 ·obtain ⟨x, hx0⟩ : ∃ x, l[k]? = some x := ⟨_, List.getElem?_eq_getElem hlt⟩
  have hx := Az_.mk hx0
  have hxm := Az_.mk (List.mem_of_getElem? hx0)
  obtain ⟨ad, D1, d1, D2, d2, hAe, x0, x1, x2, x3, x4, hL⟩ := litD_at (hbC'.out _ hbw.out) k x hx0
  subst hAe
  have hoks := HL.out.2 x hxm.out
  have HOK := Az_.mk (And.intro (show ok x.f1 ∧ ok x.f2 from ⟨hoks.1, hoks.2.2.1⟩) (show fitL x from hoks.fit (by decide)))
  have HLD := Az_.mk hL
  clear hx0 hoks hL
  go_wp2_with (first | (go_at_call 63; refine (Terms_calls LP.out).mono ?_; rintro e w4 ⟨TA, tc, rfl, htc, hTC, hb⟩; have HT := Az_.mk (And.intro htc hTC); have HB4 := Az_.mk (HB3.out.trans (hb.mono HB3.out.size)); clear htc hTC hb) | (go_at_call 64; refine (lit_calls HOK.out.1 HLD.out).mono ?_; rintro e w3 ⟨PA, pc, PB, pe, rfl, hLP, hb⟩; have LP := Az_.mk hLP; have HB3 := Az_.mk (hbw.out.trans (hb.mono hbw.out.size)); clear hLP hb))
  have hHT := HT.out
  obtain ⟨ta, tA, te, hTe, t0, t1, tle, tC⟩ := terms_head hHT.2
  subst hTe
  obtain ⟨ad', E1, f1, E2, f2, hAe', z0, z1, z2, z3, z4, hL4⟩ := litD_at (hbC'.out w4 HB4.out) k x hx.out
  injection hAe' with hAe'
  subst hAe'
  refine OrderTells_r22 (tl := termsT x) (by kernel_rfl) rfl rfl rfl (rt_told hL4) (to_told HOK.out.2.1 tC tle) hlt hcc (by unfold termsT; split <;> simp) hHT.1 z0 z1 z2 z3 z4 t0 t1 (same_told HOK.out.2.1 hL4.c1 hL4.l1) ?_
  intro v w5 hb5 hv
  simp only [layL, Nat.reduceAdd, List.setIfInBounds_toArray, List.set_cons_zero, List.set_cons_succ, hv]
  generalize v 0 = n0
  generalize v 1 = n1
  generalize v 2 = n2
  generalize v 3 = n3
  generalize v 4 = n4
  generalize v 5 = n5
  generalize v 6 = n6
  generalize v 7 = n7
  generalize v 8 = n8
  generalize v 9 = n9
  generalize v 10 = n10
  generalize v 11 = n11
  generalize v 12 = n12
  generalize v 13 = n13
  generalize v 14 = n14
  generalize v 15 = n15
  generalize v 16 = n16
  generalize v 17 = n17
  generalize v 18 = n18
  generalize v 19 = n19
  generalize v 20 = n20
  have HB5 := Az_.mk (HB4.out.trans (hb5.mono HB4.out.size))
  clear hv v hb5 z0 z1 z2 z3 z4 hL4 t0 t1 tle tC hHT x0 x1 x2 x3 x4
  go_wp2
  go_loopw [13] (fun i wr => ∃ j : Nat, j ≤ l.length ∧ i = .int .i64 j ∧ Az_ (Below wrb.heap.size wrb wr)) (fun i wr => l.length - (intOf i).toNat)
  case atStart => exact ⟨0, Nat.zero_le _, rfl, HB5⟩
  rename World => wrd
  obtain ⟨j, hj, rfl, hbw2⟩ := hrel
  by_cases hlt2 : j < l.length
  ·obtain ⟨y, hy0⟩ : ∃ y, l[j]? = some y := ⟨_, List.getElem?_eq_getElem hlt2⟩
   have hoky := HL.out.2 y (List.mem_of_getElem? hy0)
   have HOKy := Az_.mk (And.intro (show ok y.f1 ∧ ok y.f2 from ⟨hoky.1, hoky.2.2.1⟩) (show fitL y from hoky.fit (by decide)))
   obtain ⟨ad', E1, f1, E2, f2, hAe', z0, z1, z2, z3, z4, hLx⟩ := litD_at (hbC'.out wrd hbw2.out) k x hx.out
   injection hAe' with hAe'
   subst hAe'
   obtain ⟨ad', G1, g1, G2, g2, hAe', y0, y1, y2, y3, y4, hLy⟩ := litD_at (hbC'.out wrd hbw2.out) j y hy0
   injection hAe' with hAe'
   subst hAe'
   go_wp2
   refine OrderTells_r27 (x := x) (y := y) (i := k) (k := j) (by kernel_rfl) rfl rfl rfl (lit_told HOK.out.1 hLx) (lit_told HOKy.out.1 hLy) (fun w1 hb => GrD_calls HOK.out.2 HOKy.out.2 (hLx.below hb) (hLy.below hb)) hlt hlt2 hcc z0 z1 z2 z3 z4 y0 y1 y2 y3 y4 (fun w1 A c B d A' c' B' d' hb h h' => GrP_calls HOK.out.2 HOKy.out.2 h h') ?_
   intro v w6 hb6 hv
   simp only [layL, Nat.reduceAdd, List.setIfInBounds_toArray, List.set_cons_zero, List.set_cons_succ, hv]
   generalize v 0 = n0
   generalize v 1 = n1
   generalize v 2 = n2
   generalize v 3 = n3
   generalize v 4 = n4
   generalize v 5 = n5
   generalize v 6 = n6
   generalize v 7 = n7
   generalize v 8 = n8
   generalize v 9 = n9
   generalize v 10 = n10
   generalize v 11 = n11
   generalize v 12 = n12
   generalize v 13 = n13
   generalize v 14 = n14
   generalize v 15 = n15
   generalize v 16 = n16
   generalize v 17 = n17
   generalize v 18 = n18
   generalize v 19 = n19
   have HB6 := Az_.mk (hbw2.out.trans (hb6.mono hbw2.out.size))
   clear hv v hb6 z0 z1 z2 z3 z4 hLx y0 y1 y2 y3 y4 hLy hoky hy0
   go_wp2
   go_roundw
   case rel =>
    have h4 := HL.out.1
    exact ⟨j + 1, by omega, by rw [wrap_nat j (by omega)], HB6⟩
   case measure =>
    have h4 := HL.out.1
    rw [wrap_nat j (by omega)]
    simp [intOf]; omega
  ·have hje : j = l.length := by omega
   subst hje
   clear hlt2 hj
   go_wp2
   obtain ⟨ad', E1, f1, E2, f2, hAe', z0, z1, z2, z3, z4, hLx⟩ := litD_at (hbC'.out wrd hbw2.out) k x hx.out
   injection hAe' with hAe'
   subst hAe'
   refine OrderTells_r29 (x := x) (i := k) (by kernel_rfl) rfl rfl (lit_told HOK.out.1 hLx) (ror_told HOK.out.2 hLx) hlt hcc z0 z1 z2 z3 z4 (or_told HOK.out.2) ?_
   intro v w7 hb7 hO hR
   obtain ⟨g, cs, PA, pc, PB, pd, hv14, hblk, hsz, hcells, hLP⟩ := hO
   obtain ⟨RA, rc, hv15, hrc, hRC⟩ := hR
   simp only [layL, Nat.reduceAdd, List.setIfInBounds_toArray, List.set_cons_zero, List.set_cons_succ, hv14, hv15]
   generalize v 0 = n0
   generalize v 1 = n1
   generalize v 2 = n2
   generalize v 3 = n3
   generalize v 4 = n4
   generalize v 5 = n5
   generalize v 6 = n6
   generalize v 7 = n7
   generalize v 8 = n8
   generalize v 9 = n9
   generalize v 10 = n10
   have hon2 : (orientL x.f1 x.f2).length ≤ 2 := by unfold orientL; split <;> split <;> simp
   have HB7 := Az_.mk (hbw2.out.trans (hb7.mono hbw2.out.size))
   have H7 := Az_.mk (And.intro hblk (And.intro hcells (And.intro hLP (And.intro hrc hRC))))
   have HON := Az_.mk hon2
   clear hv14 hv15 v hb7 hblk hsz hcells hLP hRC hLx z0 z1 z2 z3 z4
   go_wp2
   go_loopw [16] (fun i wr => ∃ m : Nat, m ≤ (orientL x.f1 x.f2).length ∧ i = .int .i64 m ∧ Az_ (Below w7.heap.size w7 wr)) (fun i wr => (orientL x.f1 x.f2).length - (intOf i).toNat)
   case atStart => exact ⟨0, Nat.zero_le _, rfl, ⟨Below.refl _ _⟩⟩
   rename World => wre
   obtain ⟨m, hm, rfl, hbw3⟩ := hrel
   by_cases hlt3 : m < (orientL x.f1 x.f2).length
   ·obtain ⟨p, q, pA, ppc, qA, qqc, hol, u0, u1, u2, u3, hpq⟩ := pair_prog H7.out.2.1 m hlt3
    have hbk := kB_ H7.out.1 hbw3.out
    have hLP' := H7.out.2.2.1.below hbw3.out
    obtain ⟨hfp, hfq, lp, cp, lq, cq⟩ : fit p ∧ fit q ∧ p.f1.length ≤ ppc ∧ k30.C wre pA p.f1.length p.f1 ∧ q.f1.length ≤ qqc ∧ k30.C wre qA q.f1.length q.f1 := by
     rcases hpq with ⟨rfl, rfl, rfl, rfl, rfl, rfl⟩ | ⟨rfl, rfl, rfl, rfl, rfl, rfl⟩
     ·exact ⟨HOK.out.2.1, HOK.out.2.2, hLP'.l1, hLP'.c1, hLP'.l2, hLP'.c2⟩
     ·exact ⟨HOK.out.2.2, HOK.out.2.1, hLP'.l2, hLP'.c2, hLP'.l1, hLP'.c1⟩
    obtain ⟨ra, rp, rpc, dA, dc, eA, ec, hRA, r0, hrp, d0, d1, e0, e1, dl, dC, el, eC⟩ := pair_doc (Kd.C_below H7.out.2.2.2.2 hbw3.out) m p q hol
    subst hRA
    have KP := Az_.mk (And.intro hbk (And.intro hfp (And.intro hfq (And.intro lp (And.intro cp (And.intro lq (And.intro cq (And.intro hrp (And.intro dl (And.intro dC (And.intro el eC)))))))))))
    have KC := Az_.mk (And.intro u0 (And.intro u1 (And.intro u2 (And.intro u3 (And.intro r0 (And.intro d0 (And.intro d1 (And.intro e0 e1))))))))
    clear hbk hLP' hpq hfp hfq lp cp lq cq hrp dl dC el eC u0 u1 u2 u3 r0 d0 d1 e0 e1 hol
    go_wp2
    obtain ⟨hbk, hfp, hfq, lp, cp, lq, cq, hrp, dl, dC, el, eC⟩ := KP.out
    obtain ⟨u0, u1, u2, u3, r0, d0, d1, e0, e1⟩ := KC.out
    refine OrderTells_r35 (p := p) (q := q) (by kernel_rfl) rfl rfl rfl (to_told hfp cp lp) (to_told hfq cq lq) hlt3 hon2 hrc hrp ((yaa_ hbk _).trans u0) ((yaa_ hbk _).trans u1) ((yaa_ hbk _).trans u2) ((yaa_ hbk _).trans u3) r0 d0 d1 e0 e1 (same_told hfp dC dl) (same_told hfq eC el) ?_
    intro v w8 hb8 hv
    simp only [layL, Nat.reduceAdd, List.setIfInBounds_toArray, List.set_cons_zero, List.set_cons_succ, hv]
    generalize v 0 = n0
    generalize v 1 = n1
    generalize v 2 = n2
    generalize v 3 = n3
    generalize v 4 = n4
    generalize v 5 = n5
    generalize v 6 = n6
    generalize v 7 = n7
    generalize v 8 = n8
    generalize v 9 = n9
    generalize v 10 = n10
    generalize v 11 = n11
    generalize v 12 = n12
    generalize v 13 = n13
    generalize v 14 = n14
    generalize v 15 = n15
    generalize v 16 = n16
    generalize v 17 = n17
    generalize v 18 = n18
    generalize v 19 = n19
    generalize v 20 = n20
    generalize v 21 = n21
    generalize v 22 = n22
    generalize v 23 = n23
    generalize v 24 = n24
    generalize v 25 = n25
    generalize v 26 = n26
    generalize v 27 = n27
    generalize v 28 = n28
    have HB8 := Az_.mk (hbw3.out.trans (hb8.mono hbw3.out.size))
    clear hv v hb8 hbk hfp hfq lp cp lq cq hrp dl dC el eC u0 u1 u2 u3 r0 d0 d1 e0 e1 KP KC
    go_wp2
    go_roundw
    case rel => exact ⟨m + 1, by omega, by go_num, HB8⟩
    case measure => simp [intOf]; omega
   ·have hme : m = (orientL x.f1 x.f2).length := by omega
    subst hme
    clear hlt3 hm
    go_wp2
    go_roundw
    case rel =>
     have h4 := HL.out.1
     exact ⟨k + 1, by omega, by rw [wrap_nat k (by omega)], ⟨HB7.out.trans (hbw3.out.mono HB7.out.size)⟩⟩
    case measure =>
     have h4 := HL.out.1
     rw [wrap_nat k (by omega)]
     simp [intOf]; omega
 ·have hke : k = l.length := by omega
  subst hke
  have h6 := HAL.out
  have hfa : ∀ x ∈ a, fit x := fun x hx => fit_of_ok x (HSa.out x hx).1 (by have := nodes_le x; have := (HSa.out x hx).2; omega)
  have hfb : ∀ x ∈ b, fit x := fun x hx => fit_of_ok x (HSb.out x hx).1 (by have := nodes_le x; have := (HSb.out x hx).2; omega)
  obtain ⟨km, em⟩ := (RMulti_spec a b hfa hfb (by omega) (by omega)).rounds
  have HM := Az_.mk (And.intro (Multi_of hfa hfb (by omega) (by omega)) em)
  clear hlt hk h6 hfa hfb em
  go_wp2_with (first | (go_at_call 70; refine (soritesref14_Multi.calls km A ca a B cb b _ _ (hbA.out _ (HBb.out.trans (HB8.out.mono HBb.out.size))) hca (hbB.out _ (HBb.out.trans (HB8.out.mono HBb.out.size))) hcb HM.out.2).mono ?_; rintro e w9 ⟨rfl, hb⟩; have HB9 := Az_.mk (HB8.out.trans (hb.mono HB8.out.size)); clear hb) | (go_at_call 62; refine (order_Multi.calls Xa cxa a Xb cxb b _ _ (KXa.out _ hbw.out) hcxa (KXb.out _ hbw.out) hcxb HM.out.1).mono ?_; rintro e w8 ⟨rfl, hb⟩; have HB8 := Az_.mk (hbw.out.trans (hb.mono hbw.out.size)); clear hb))
  go_ret
  exact ⟨by simp, HBb.out.trans (HB9.out.mono HBb.out.size)⟩
end
end Go.Proofs.Ytpfddihcikiofaa.P
section
namespace Go.Proofs.Ytpfddihcikiofaa.orderTells
open Go.ChangeShapes Go.WideShapes Go.ChangeAt Go.RowKit
set_option linter.unusedVariables false
theorem own : ownKnob Try.prog.godebug = none := by kernel_rfl
theorem laidOut : laidOutB Try.prog = true := by kernel_rfl
set_option maxRecDepth 100000 in
theorem lifted (os : Os) (started : os.Started) (H : Type) (enc : TypeId × Value → H) :
  ReturnsInHanded {} Try.checked os 17 .any (Rows.orderTellsSpec.pre6 enc Try.prog Try.f17 Rows.orderTellsRow.domain false) (Rows.orderTellsSpec.post enc Try.prog Try.f17 false true false false) := by
 refine returnsInHanded_of_change_sized (C := Try.checked) own started (by kernel_rfl) Try.func17
  (ChangeSpec.witness6 (enc := enc) (C := Try.checked) false ⟨#[], #[.slice none 0 0, .slice none 0 0, .slice none 0 0], []⟩ 8 (by kernel_rfl) (by kernel_rfl) (by kernel_rfl) (by kernel_rfl)) ?_
 intro W base args ds gs before hval0 hW hcnd hsz0 _
 have hval : ∀ (j : Nat) t v, Try.f17.params[j]? = some t → args[j]? = some v → Value.okWide Try.prog W .any base t v := hval0
 have hW' := hW
 obtain ⟨p, q, hA0, hV, rfl, hfz, hnd⟩ := hW
 have hA : DataW.TrodAll enc Try.prog W 0 (fun _ => true) true Try.f17.params.toList args.toList ds p := hA0
 rw [Try.params17] at hA hval
 obtain ⟨v0, vs0, d0, ds0, p0, q0, hargs, rfl, rfl, h0, r0⟩ := trodAll_cons hA
 obtain ⟨v1, vs1, d1, ds1, p1, q1, rfl, rfl, rfl, h1, r1⟩ := trodAll_cons r0
 obtain ⟨v2, vs2, d2, ds2, p2, q2, rfl, rfl, rfl, h2, r2⟩ := trodAll_cons r1
 obtain ⟨rfl, rfl, rfl⟩ := trodAll_nil r2
 obtain rfl : args = #[v0, v1, v2] := by cases args; simp_all
 obtain ⟨rfl, rfl⟩ := trodVars_none hV
 have k0 := h0
 have lt0 : ∀ x ∈ p0, x.block < W.heap.size := by obtain ⟨m, hm⟩ := k0; exact DataW.trod_lt m _ _ _ hm
 obtain ⟨t0, A0, c0, rfl, hc0, hC0⟩ := P.open_Ts (hval 0 22 v0 rfl rfl) h0
 have k1 := h1
 have lt1 : ∀ x ∈ p1, x.block < W.heap.size := by obtain ⟨m, hm⟩ := k1; exact DataW.trod_lt m _ _ _ hm
 obtain ⟨t1, A1, c1, rfl, hc1, hC1⟩ := P.open_Ts (hval 1 22 v1 rfl rfl) h1
 have k2 := h2
 have lt2 : ∀ x ∈ p2, x.block < W.heap.size := by obtain ⟨m, hm⟩ := k2; exact DataW.trod_lt m _ _ _ hm
 obtain ⟨t2, A2, c2, rfl, hc2, hC2⟩ := P.open_Lits (hval 2 65 v2 rfl rfl) h2
 clear hA0 hval0 hsz0
 refine (P.OrderTells_walk t0 t1 t2 A0 A1 A2 c0 c1 c2 W hC0 hc0 hC1 hc1 hC2 hc2).mono fun e W' ⟨he, bel⟩ => ?_
 subst he
 exact ⟨_, rfl, _, _, _, [], _, [], hW', trodAll_mk1 (shut_bool Try.underlying4 _), (trodAll_cons_mk (Below.trod laidOut (by kernel_rfl) (of_decide_eq_true (by kernel_rfl)) k0 bel lt0) (trodAll_cons_mk (Below.trod laidOut (by kernel_rfl) (of_decide_eq_true (by kernel_rfl)) k1 bel lt1) (trodAll_cons_mk (Below.trod laidOut (by kernel_rfl) (of_decide_eq_true (by kernel_rfl)) k2 bel lt2) trodAll_mk0))), rfl, bel.frame _, fun h => by cases h⟩
theorem over : Rows.orderTellsRow.holds Try.pinned (OpenSpec.ofChange Rows.orderTellsSpec) :=
 OpenClaim.holds_of_wide 17 Try.f17 rfl rfl rfl rfl rfl rfl rfl ⟨rfl, rfl, rfl, rfl, rfl⟩ rfl rfl rfl rfl rfl (by kernel_rfl) Try.func17 (by kernel_rfl)
  (of_decide_eq_true (by kernel_rfl)) (by unfold Func.isWrapper; first | (rw [if_pos (by decide +kernel)]; kernel_rfl) | (rw [if_neg (by decide +kernel)]; exact ⟨rfl, rfl⟩))
  (fun os started H enc _ => lifted os started H enc)
end Go.Proofs.Ytpfddihcikiofaa.orderTells
namespace Go.Proofs.Ytpfddihcikiofaa
theorem orderTells_holds : Rows.OrderTellsSaid := orderTells.over
#print axioms orderTells_holds
end Go.Proofs.Ytpfddihcikiofaa
end
