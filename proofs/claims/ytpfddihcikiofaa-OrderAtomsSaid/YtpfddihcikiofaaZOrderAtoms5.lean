/- The law OrderAtoms holds of every input. Part 5 of 5: GLooks, GLooks2, GRules14, GTells1, GTells3, GTells4, GAtoms1, GAtoms2, GOrRegs, GAtomsR, GOrderAtoms, LawOrderAtoms. -/
import Derived.Test.YtpfddihcikiofaaZOrderAtoms4
import Derived.Test.YtpfddihcikiofaaZOrderAtoms2
import Derived.Test.YtpfddihcikiofaaZOrderAtoms3
import Derived.Test.YtpfddihcikiofaaRows
import Derived.WalkKit
import Derived.ProofKit
import Derived.OpenShut
import Derived.ShutString
import Derived.ChangeOld
import Derived.Below
import Derived.SizedLaws
import Derived.Test.YtpfddihcikiofaaZOrderAtoms1
namespace Go.Proofs.Ytpfddihcikiofaa.P
open Go.RowKit Go.Proofs.YtpfddihcikiofaaW.PrintWords Go.Proofs.YtpfddihcikiofaaW.PrintLast Go.Proofs.YtpfddihcikiofaaW.PrintMore
set_option linter.unusedVariables false
set_option linter.unusedSimpArgs false
section
theorem rd81_at (l : List S81) (k : Nat) (h : k < l.length) : rd_T81 l (k : Int) = l[k] := by
 unfold rd_T81
 simp [List.getD, List.getElem?_eq_getElem h]
theorem grL_irrefl (x : S78) : grL x x = false := multi_irrefl _
theorem grL_trans (x y z : S78) (h : grL x y = true) (k : grL y z = true) : grL x z = true := multi_trans _ _ _ h k
def gstL (l : List S78) (y : S78) : Bool := !(l.any fun x => grL x y)
theorem gr78_of {x y : S78} (hx : fitL x) (hy : fitL y) : gr78 x y = some (grL x y) := OGreater_of hx hy
theorem OGreatest_of {l : List S78} (hl : ∀ x ∈ l, fitL x) (i : Nat) (hi : i < l.length) : order_Greatest.f l (i : Int) = some (gstL l l[i]) := by
 have hfi := hl _ (List.getElem_mem hi)
 unfold order_Greatest.f
 rw [if_neg (by omega), rd78_at l i hi, if_pos (List.all_eq_true.2 (fun x hx => by rw [gr78_of (hl x hx) hfi]; rfl))]
 congr 2
 rw [Bool.eq_iff_iff, List.any_eq_true, List.any_eq_true]
 constructor
 ·rintro ⟨x, hx, h⟩
  rw [gr78_of (hl x hx) hfi] at h
  exact ⟨x, hx, by simpa using h⟩
 ·rintro ⟨x, hx, h⟩
  exact ⟨x, hx, by rw [gr78_of (hl x hx) hfi, h]; rfl⟩
theorem RGreatest_spec {l : List S78} (hl : ∀ x ∈ l, fitL x) (hn : l.length ≤ 1000000) (i : Nat) (hi : i < l.length) : Ev (fun k => soritesref14_Greatest.f k l (i : Int)) (gstL l l[i]) := by
 have key : ∀ (n j : Nat), l.length - j = n → j ≤ l.length → Ev (fun k => soritesref14_Greatest.l0 k l (i : Int) (j : Int)) (!((l.drop j).any fun x => grL x l[i])) := by
  intro n
  induction n with
  | zero =>
   intro j hj hle
   refine Ev.step (f := fun _ => some true) (fun k => by rw [soritesref14_Greatest.l0, if_neg (by omega)]) ?_
   rw [List.drop_of_length_le (by omega)]
   exact Ev.now _
  | succ n ihn =>
   intro j hj hle
   have hlt : j < l.length := by omega
   rw [List.drop_eq_getElem_cons hlt, List.any_cons]
   refine Ev.step (f := fun k => (soritesref14_Greater.f k l[j].f0 l[j].f1.f0 l[j].f1.f1 l[j].f2.f0 l[j].f2.f1 l[i].f0 l[i].f1.f0 l[i].f1.f1 l[i].f2.f0 l[i].f2.f1).bind fun t => if t = true then some false else soritesref14_Greatest.l0 k l (i : Int) ((j + 1 : Nat) : Int)) (fun k => ?_) (Ev.bind (RGreaterL_spec (hl _ (List.getElem_mem hlt)) (hl _ (List.getElem_mem hi))) ?_)
   ·rw [soritesref14_Greatest.l0, if_pos (by omega), if_pos (by omega), if_pos (by omega), if_pos (by omega), rd81_at l j hlt, rd81_at l i hi, wsucc j l.length hlt (by omega)]
   ·cases hg : grL l[j] l[i] with
    | true => simp only [if_true, Bool.true_or]; exact Ev.now _
    | false => simp only [Bool.false_eq_true, if_false, Bool.false_or]; exact ihn (j + 1) (by omega) (by omega)
 exact key l.length 0 rfl (by omega)
def wtL (x : S78) : Nat := (nodes x.f1).length + (nodes x.f2).length
theorem OWeight_of {x : S78} (h : fitL x) : order_weight.f x.f0 x.f1.f0 x.f1.f1 x.f2.f0 x.f2.f1 = some (wtL x : Int) := by
 unfold order_weight.f
 rw [Size_fit h.1, Option.bind_some, Size_fit h.2, Option.bind_some]
 have := h.1.1
 have := h.2.1
 rw [w64 _ (by omega)]
 unfold wtL
 rw [Int.natCast_add]
theorem RWeight_spec {x : S78} (h : fitL x) : Ev (fun k => soritesref14_weight.f k x.f0 x.f1.f0 x.f1.f1 x.f2.f0 x.f2.f1) (wtL x : Int) := by
 unfold soritesref14_weight.f
 refine Ev.bind (RFlat_spec x.f1 h.1) (Ev.bind (RFlat_spec x.f2 h.2) ?_)
 have := h.1.1
 have := h.2.1
 rw [w64 _ (by omega)]
 unfold wtL
 rw [Int.natCast_add]
 exact Ev.now _
theorem wt_pos' (x : S78) : 0 < wtL x := by unfold wtL; have := nodes_pos x.f1; omega
def col (l : List S78) : Nat → Nat → List Int
 | 0, _ => []
 | n + 1, i => if gstL l (l.getD i z78) = true then (i : Int) :: col l n (i + 1) else col l n (i + 1)
theorem getD_at (l : List S78) (i : Nat) (h : i < l.length) : l.getD i z78 = l[i] := by simp [List.getD, List.getElem?_eq_getElem h]
theorem Ocol {l : List S78} (hl : ∀ x ∈ l, fitL x) (hn : l.length ≤ 1000000) : ∀ (n i : Nat), l.length - i = n → i ≤ l.length → ∀ o : List Int, o.length ≤ i → Ev (fun k => order_Looked.l1 k l o (l.length : Int) (i : Int)) (o ++ col l n i) := by
 intro n
 induction n with
 | zero =>
  intro i hi hle o ho
  refine Ev.step (f := fun _ => some o) (fun k => by rw [order_Looked.l1, if_neg (by omega)]) ?_
  rw [col, List.append_nil]
  exact Ev.now _
 | succ n ihn =>
  intro i hi hle o ho
  have hlt : i < l.length := by omega
  rw [col, getD_at l i hlt]
  cases hg : gstL l l[i] with
  | true =>
   refine Ev.step (f := fun k => order_Looked.l1 k l (o ++ [(i : Int)]) (l.length : Int) ((i + 1 : Nat) : Int)) (fun k => ?_) ?_
   ·rw [order_Looked.l1, if_pos (by omega), OGreatest_of hl i hlt, Option.bind_some, if_pos hg, if_pos (by omega), wsucc i l.length hlt (by omega)]
   ·have := ihn (i + 1) (by omega) (by omega) (o ++ [(i : Int)]) (by rw [List.length_append, List.length_singleton]; omega)
    rw [List.append_assoc] at this
    exact this
  | false =>
   refine Ev.step (f := fun k => order_Looked.l1 k l o (l.length : Int) ((i + 1 : Nat) : Int)) (fun k => ?_) (ihn (i + 1) (by omega) (by omega) o (by omega))
   rw [order_Looked.l1, if_pos (by omega), OGreatest_of hl i hlt, Option.bind_some, if_neg (by rw [hg]; decide), wsucc i l.length hlt (by omega)]
theorem Rcol {l : List S78} (hl : ∀ x ∈ l, fitL x) (hn : l.length ≤ 1000000) : ∀ (n i : Nat), l.length - i = n → i ≤ l.length → ∀ o : List Int, o.length ≤ i → Ev (fun k => soritesref14_Looked.l1 k l 0 o (i : Int)) (o ++ col l n i) := by
 intro n
 induction n with
 | zero =>
  intro i hi hle o ho
  refine Ev.step (f := fun _ => some o) (fun k => by rw [soritesref14_Looked.l1, if_neg (by omega)]) ?_
  rw [col, List.append_nil]
  exact Ev.now _
 | succ n ihn =>
  intro i hi hle o ho
  have hlt : i < l.length := by omega
  rw [col, getD_at l i hlt]
  refine Ev.step (f := fun k => soritesref14_Looked.j2 k l 0 o (i : Int) false) (fun k => by rw [soritesref14_Looked.l1, if_pos (by omega), if_neg (by decide)]) ?_
  refine Ev.step (f := fun k => (soritesref14_Greatest.f k l (i : Int)).bind fun t => if t = true then (if o.length < 17592186044416 then soritesref14_Looked.l1 k l 0 (o ++ [(i : Int)]) ((i + 1 : Nat) : Int) else none) else soritesref14_Looked.l1 k l 0 o ((i + 1 : Nat) : Int)) (fun k => ?_) (Ev.bind (RGreatest_spec hl hn i hlt) ?_)
  ·rw [soritesref14_Looked.j2, if_neg (by decide), if_pos rfl, wsucc i l.length hlt (by omega)]
  ·cases hg : gstL l l[i] with
   | true =>
    simp only [if_true, if_pos (show o.length < 17592186044416 by omega)]
    have := ihn (i + 1) (by omega) (by omega) (o ++ [(i : Int)]) (by rw [List.length_append, List.length_singleton]; omega)
    rw [List.append_assoc] at this
    exact this
   | false =>
    simp only [Bool.false_eq_true, if_false]
    exact ihn (i + 1) (by omega) (by omega) o (by omega)
theorem col_pos (l : List S78) : ∀ (n i j : Nat), i ≤ j → j < i + n → gstL l (l.getD j z78) = true → col l n i ≠ []
 | 0, i, j, h1, h2, _ => by omega
 | n + 1, i, j, h1, h2, h3 => by
  rw [col]
  split
  ·exact List.cons_ne_nil _ _
  ·rename_i h
   have : i ≠ j := fun e => h (by rw [e]; exact h3)
   exact col_pos l n (i + 1) j (by omega) (by omega) h3
end
section
def IsBest (l : List S78) (i b : Nat) : Prop := b < i ∧ (l.getD b z78).f0 = true ∧ (∀ j, j < i → (l.getD j z78).f0 = true → wtL (l.getD j z78) ≤ wtL (l.getD b z78)) ∧ ∀ j, j < b → (l.getD j z78).f0 = true → wtL (l.getD j z78) < wtL (l.getD b z78)
def NoNeg (l : List S78) (i : Nat) : Prop := ∀ j, j < i → (l.getD j z78).f0 = false
def InvB (l : List S78) (i : Nat) (x : Int) : Prop := (x = -1 ∧ NoNeg l i) ∨ ∃ b : Nat, x = (b : Int) ∧ IsBest l i b
def InvM (l : List S78) (i : Nat) (m : Int) : Prop := (m = 0 ∧ NoNeg l i) ∨ ∃ b : Nat, m = (wtL (l.getD b z78) : Int) ∧ IsBest l i b
theorem lt_succ_cases {P : Nat → Prop} {i : Nat} (h : ∀ j, j < i → P j) (hi : P i) : ∀ j, j < i + 1 → P j := fun j hj => by
 rcases Nat.lt_or_ge j i with h1 | h1
 ·exact h j h1
 ·rw [show j = i by omega]; exact hi
theorem IsBest.keep {l : List S78} {i b : Nat} (h : IsBest l i b) (hn : (l.getD i z78).f0 = true → wtL (l.getD i z78) ≤ wtL (l.getD b z78)) : IsBest l (i + 1) b :=
 ⟨by have := h.1; omega, h.2.1, lt_succ_cases h.2.2.1 hn, h.2.2.2⟩
theorem IsBest.new {l : List S78} {i b : Nat} (h : IsBest l i b) (hi : (l.getD i z78).f0 = true) (hn : wtL (l.getD b z78) < wtL (l.getD i z78)) : IsBest l (i + 1) i :=
 ⟨Nat.lt_succ_self _, hi, lt_succ_cases (fun j hj hjn => by have := h.2.2.1 j hj hjn; omega) (fun _ => Nat.le_refl _), fun j hj hjn => by have := h.2.2.1 j hj hjn; omega⟩
theorem IsBest.first {l : List S78} {i : Nat} (h : NoNeg l i) (hi : (l.getD i z78).f0 = true) : IsBest l (i + 1) i :=
 ⟨Nat.lt_succ_self _, hi, lt_succ_cases (fun j hj hjn => by rw [h j hj] at hjn; cases hjn) (fun _ => Nat.le_refl _), fun j hj hjn => by rw [h j hj] at hjn; cases hjn⟩
theorem IsBest.uniq {l : List S78} {i b c : Nat} (h : IsBest l i b) (k : IsBest l i c) : b = c := by
 rcases Nat.lt_trichotomy b c with hlt | he | hlt
 ·have h1 := k.2.2.2 b hlt h.2.1
  have h2 := h.2.2.1 c k.1 k.2.1
  omega
 ·exact he
 ·have h1 := h.2.2.2 c hlt k.2.1
  have h2 := k.2.2.1 b h.1 h.2.1
  omega
theorem Obest {l : List S78} (hl : ∀ x ∈ l, fitL x) (hn : l.length ≤ 1000000) : ∀ (n i : Nat), l.length - i = n → i ≤ l.length → ∀ x : Int, InvB l i x → ∃ x', InvB l l.length x' ∧ ∀ r, Ev (fun k => order_Looked.l0 k l x' l (l.length : Int) (l.length : Int)) r → Ev (fun k => order_Looked.l0 k l x l (l.length : Int) (i : Int)) r := by
 intro n
 induction n with
 | zero =>
  intro i hi hle x hx
  have : i = l.length := by omega
  subst this
  exact ⟨x, hx, fun r h => h⟩
 | succ n ihn =>
  intro i hi hle x hx
  have hlt : i < l.length := by omega
  have hfi := hl _ (List.getElem_mem hlt)
  have hgi := getD_at l i hlt
  have go : ∀ x2, InvB l (i + 1) x2 → (∀ r, Ev (fun k => order_Looked.l0 k l x2 l (l.length : Int) ((i + 1 : Nat) : Int)) r → Ev (fun k => order_Looked.l0 k l x l (l.length : Int) (i : Int)) r) → ∃ x', InvB l l.length x' ∧ ∀ r, Ev (fun k => order_Looked.l0 k l x' l (l.length : Int) (l.length : Int)) r → Ev (fun k => order_Looked.l0 k l x l (l.length : Int) (i : Int)) r := fun x2 h2 hs => by
   obtain ⟨x', h1, h3⟩ := ihn (i + 1) (by omega) (by omega) x2 h2
   exact ⟨x', h1, fun r h => hs r (h3 r h)⟩
  by_cases hneg : l[i].f0 = true
  ·rcases hx with ⟨rfl, hno⟩ | ⟨b, rfl, hb⟩
   ·refine go (i : Int) (.inr ⟨i, rfl, IsBest.first hno (by rw [hgi]; exact hneg)⟩) (fun r h => Ev.step (fun k => ?_) h)
    rw [order_Looked.l0, if_pos (by omega), if_pos (by omega), if_pos (by omega), rd78_at l i hlt, if_pos hneg, if_pos (by decide), wsucc i l.length hlt (by omega)]
   ·have hbl : b < l.length := by have := hb.1; omega
    have hfb := hl _ (List.getElem_mem hbl)
    have hgb := getD_at l b hbl
    by_cases hw : wtL l[b] < wtL l[i]
    ·refine go (i : Int) (.inr ⟨i, rfl, hb.new (by rw [hgi]; exact hneg) (by rw [hgi, hgb]; exact hw)⟩) (fun r h => Ev.step (fun k => ?_) h)
     rw [order_Looked.l0, if_pos (by omega), if_pos (by omega), if_pos (by omega), rd78_at l i hlt, if_pos hneg, if_neg (by omega), OWeight_of hfi, Option.bind_some, if_pos (by omega), if_pos (by omega), rd78_at l b hbl, OWeight_of hfb, Option.bind_some, if_pos (by omega), wsucc i l.length hlt (by omega)]
    ·refine go (b : Int) (.inr ⟨b, rfl, hb.keep (fun _ => by rw [hgi, hgb]; omega)⟩) (fun r h => Ev.step (fun k => ?_) h)
     rw [order_Looked.l0, if_pos (by omega), if_pos (by omega), if_pos (by omega), rd78_at l i hlt, if_pos hneg, if_neg (by omega), OWeight_of hfi, Option.bind_some, if_pos (by omega), if_pos (by omega), rd78_at l b hbl, OWeight_of hfb, Option.bind_some, if_neg (by omega), wsucc i l.length hlt (by omega)]
  ·have hnf : (l.getD i z78).f0 = false := by rw [hgi]; exact Bool.eq_false_iff.2 hneg
   refine go x ?_ (fun r h => Ev.step (fun k => ?_) h)
   ·rcases hx with ⟨rfl, hno⟩ | ⟨b, rfl, hb⟩
    ·exact .inl ⟨rfl, lt_succ_cases hno hnf⟩
    ·exact .inr ⟨b, rfl, hb.keep (fun h => by rw [hnf] at h; cases h)⟩
   ·rw [order_Looked.l0, if_pos (by omega), if_pos (by omega), if_pos (by omega), rd78_at l i hlt, if_neg hneg, wsucc i l.length hlt (by omega)]
theorem Rbest {l : List S78} (hl : ∀ x ∈ l, fitL x) (hn : l.length ≤ 1000000) : ∀ (n i : Nat), l.length - i = n → i ≤ l.length → ∀ x : Int, InvM l i x → ∃ x', InvM l l.length x' ∧ ∀ r, Ev (fun k => soritesref14_Looked.l0 k l x' (l.length : Int)) r → Ev (fun k => soritesref14_Looked.l0 k l x (i : Int)) r := by
 intro n
 induction n with
 | zero =>
  intro i hi hle x hx
  have : i = l.length := by omega
  subst this
  exact ⟨x, hx, fun r h => h⟩
 | succ n ihn =>
  intro i hi hle x hx
  have hlt : i < l.length := by omega
  have hfi := hl _ (List.getElem_mem hlt)
  have hgi := getD_at l i hlt
  have go : ∀ x2, InvM l (i + 1) x2 → (∀ r, Ev (fun k => soritesref14_Looked.l0 k l x2 ((i + 1 : Nat) : Int)) r → Ev (fun k => soritesref14_Looked.l0 k l x (i : Int)) r) → ∃ x', InvM l l.length x' ∧ ∀ r, Ev (fun k => soritesref14_Looked.l0 k l x' (l.length : Int)) r → Ev (fun k => soritesref14_Looked.l0 k l x (i : Int)) r := fun x2 h2 hs => by
   obtain ⟨x', h1, h3⟩ := ihn (i + 1) (by omega) (by omega) x2 h2
   exact ⟨x', h1, fun r h => hs r (h3 r h)⟩
  by_cases hneg : l[i].f0 = true
  ·have hst : ∀ k, soritesref14_Looked.l0 (k + 1) l x (i : Int) = (soritesref14_weight.f k l[i].f0 l[i].f1.f0 l[i].f1.f1 l[i].f2.f0 l[i].f2.f1).bind fun t => if t > x then ((soritesref14_weight.f k l[i].f0 l[i].f1.f0 l[i].f1.f1 l[i].f2.f0 l[i].f2.f1).bind fun t => soritesref14_Looked.l0 k l t ((i + 1 : Nat) : Int)) else soritesref14_Looked.l0 k l x ((i + 1 : Nat) : Int) := fun k => by
    rw [soritesref14_Looked.l0, if_pos (by omega), if_pos (by omega), rd81_at l i hlt, if_pos hneg, wsucc i l.length hlt (by omega)]
   by_cases hw : (wtL l[i] : Int) > x
   ·refine go (wtL l[i] : Int) (.inr ⟨i, by rw [hgi], ?_⟩) (fun r h => Ev.step hst (Ev.bind (RWeight_spec hfi) ?_))
    ·rcases hx with ⟨rfl, hno⟩ | ⟨b, rfl, hb⟩
     ·exact IsBest.first hno (by rw [hgi]; exact hneg)
     ·exact hb.new (by rw [hgi]; exact hneg) (by rw [hgi]; omega)
    ·simp only [if_pos hw]
     exact Ev.bind (RWeight_spec hfi) h
   ·refine go x ?_ (fun r h => Ev.step hst (Ev.bind (RWeight_spec hfi) ?_))
    ·rcases hx with ⟨rfl, hno⟩ | ⟨b, rfl, hb⟩
     ·have := wt_pos' l[i]
      omega
     ·exact .inr ⟨b, rfl, hb.keep (fun _ => by rw [hgi]; omega)⟩
    ·simp only [if_neg hw]
     exact h
  ·have hnf : (l.getD i z78).f0 = false := by rw [hgi]; exact Bool.eq_false_iff.2 hneg
   refine go x ?_ (fun r h => Ev.step (fun k => ?_) h)
   ·rcases hx with ⟨rfl, hno⟩ | ⟨b, rfl, hb⟩
    ·exact .inl ⟨rfl, lt_succ_cases hno hnf⟩
    ·exact .inr ⟨b, rfl, hb.keep (fun h => by rw [hnf] at h; cases h)⟩
   ·rw [soritesref14_Looked.l0, if_pos (by omega), if_pos (by omega), rd81_at l i hlt, if_neg hneg, wsucc i l.length hlt (by omega)]
theorem Rfind {l : List S78} (hl : ∀ x ∈ l, fitL x) (hn : l.length ≤ 1000000) {b : Nat} (hb : IsBest l l.length b) : ∀ (n i : Nat), b - i = n → i ≤ b → Ev (fun k => soritesref14_Looked.l1 k l (wtL (l.getD b z78) : Int) [] (i : Int)) [(b : Int)] := by
 have hpos := wt_pos' (l.getD b z78)
 have hbl := hb.1
 intro n
 induction n with
 | zero =>
  intro i hi hle
  have : i = b := by omega
  subst this
  have hfi := hl _ (List.getElem_mem hbl)
  have hgi := getD_at l i hbl
  have hneg : l[i].f0 = true := by rw [← hgi]; exact hb.2.1
  refine Ev.step (f := fun k => (soritesref14_weight.f k l[i].f0 l[i].f1.f0 l[i].f1.f1 l[i].f2.f0 l[i].f2.f1).bind fun t => soritesref14_Looked.j2 k l (wtL (l.getD i z78) : Int) [] (i : Int) (t == (wtL (l.getD i z78) : Int))) (fun k => ?_) (Ev.bind (RWeight_spec hfi) ?_)
  ·rw [soritesref14_Looked.l1, if_pos (by omega), if_pos (by omega), if_pos (by omega), rd81_at l i hbl, if_pos hneg]
  ·rw [hgi]
   exact Ev.step (f := fun _ => some [(i : Int)]) (fun k => by rw [soritesref14_Looked.j2, if_pos (beq_self_eq_true _)]) (Ev.now _)
 | succ n ihn =>
  intro i hi hle
  have hlt : i < b := by omega
  have hil : i < l.length := by omega
  have hfi := hl _ (List.getElem_mem hil)
  have hgi := getD_at l i hil
  have hskip : Ev (fun k => soritesref14_Looked.j2 k l (wtL (l.getD b z78) : Int) [] (i : Int) false) [(b : Int)] := by
   refine Ev.step (f := fun k => soritesref14_Looked.l1 k l (wtL (l.getD b z78) : Int) [] ((i + 1 : Nat) : Int)) (fun k => ?_) (ihn (i + 1) (by omega) (by omega))
   rw [soritesref14_Looked.j2, if_neg (by decide), if_neg (by omega), wsucc i l.length hil (by omega)]
  by_cases hneg : l[i].f0 = true
  ·refine Ev.step (f := fun k => (soritesref14_weight.f k l[i].f0 l[i].f1.f0 l[i].f1.f1 l[i].f2.f0 l[i].f2.f1).bind fun t => soritesref14_Looked.j2 k l (wtL (l.getD b z78) : Int) [] (i : Int) (t == (wtL (l.getD b z78) : Int))) (fun k => ?_) (Ev.bind (RWeight_spec hfi) ?_)
   ·rw [soritesref14_Looked.l1, if_pos (by omega), if_pos (by omega), if_pos (by omega), rd81_at l i hil, if_pos hneg]
   ·have hw := hb.2.2.2 i hlt (by rw [hgi]; exact hneg)
    rw [hgi] at hw
    have hne : ((wtL l[i] : Int) == (wtL (l.getD b z78) : Int)) = false := by rw [beq_eq_false_iff_ne]; omega
    simp only [hne]
    exact hskip
  ·refine Ev.step (f := fun k => soritesref14_Looked.j2 k l (wtL (l.getD b z78) : Int) [] (i : Int) false) (fun k => ?_) hskip
   rw [soritesref14_Looked.l1, if_pos (by omega), if_pos (by omega), if_pos (by omega), rd81_at l i hil, if_neg hneg]
theorem Looked_spec {l : List S78} (hl : ∀ x ∈ l, fitL x) (hn : l.length ≤ 1000000) : ∃ o : List Int, Ev (fun k => order_Looked.f k l) o ∧ Ev (fun k => soritesref14_Looked.f k l) o ∧ (0 < o.length ↔ 0 < l.length) ∧ ((∃ b : Nat, IsBest l l.length b ∧ o = [(b : Int)]) ∨ (NoNeg l l.length ∧ o = col l l.length 0)) ∧ o.length ≤ l.length := by
 obtain ⟨x, hx, hxs⟩ := Obest hl hn l.length 0 rfl (Nat.zero_le _) (-1) (.inl ⟨rfl, fun j hj => absurd hj (Nat.not_lt_zero _)⟩)
 obtain ⟨m, hm, hms⟩ := Rbest hl hn l.length 0 rfl (Nat.zero_le _) 0 (.inl ⟨rfl, fun j hj => absurd hj (Nat.not_lt_zero _)⟩)
 have hcl : ∀ n i, (col l n i).length ≤ n := by
  intro n
  induction n with
  | zero => intro i; exact Nat.le_refl _
  | succ n ih => intro i; have := ih (i + 1); rw [col]; split; (rw [List.length_cons]; omega); omega
 rcases hx with ⟨rfl, hno⟩ | ⟨b, rfl, hb⟩
 ·rcases hm with ⟨rfl, _⟩ | ⟨c, rfl, hc⟩
  ·refine ⟨col l l.length 0, hxs _ ?_, hms _ ?_, ⟨fun h => ?_, fun h => ?_⟩, .inr ⟨hno, rfl⟩, hcl _ _⟩
   ·refine Ev.step (f := fun k => order_Looked.l1 k l [] (l.length : Int) ((0 : Nat) : Int)) (fun k => by rw [order_Looked.l0, if_neg (by omega), if_neg (by decide)]; rfl) ?_
    exact Ocol hl hn l.length 0 rfl (Nat.zero_le _) [] (Nat.le_refl _)
   ·refine Ev.step (f := fun k => soritesref14_Looked.l1 k l 0 [] ((0 : Nat) : Int)) (fun k => by rw [soritesref14_Looked.l0, if_neg (by omega)]; rfl) ?_
    exact Rcol hl hn l.length 0 rfl (Nat.zero_le _) [] (Nat.le_refl _)
   ·rcases Nat.eq_zero_or_pos l.length with h0 | h0
    ·rw [h0] at h; exact absurd h (Nat.lt_irrefl _)
    ·exact h0
   ·obtain ⟨x, hx, _, hmax⟩ := ex_max grL grL_irrefl grL_trans (fun _ => True) l ⟨l[0], List.getElem_mem h, trivial⟩
    obtain ⟨j, hj, rfl⟩ := List.getElem_of_mem hx
    have hg : gstL l (l.getD j z78) = true := by
     rw [getD_at l j hj]
     unfold gstL
     rw [Bool.not_eq_true', List.any_eq_false]
     intro z hz
     rw [hmax z hz trivial]
     decide
    exact List.length_pos_iff.2 (col_pos l l.length 0 j (Nat.zero_le _) (by omega) hg)
  ·have := hno c hc.1
   rw [hc.2.1] at this
   cases this
 ·rcases hm with ⟨rfl, hno⟩ | ⟨c, rfl, hc⟩
  ·have := hno b hb.1
   rw [hb.2.1] at this
   cases this
  ·have hbc := hb.uniq hc
   subst hbc
   refine ⟨[(b : Int)], hxs _ ?_, hms _ ?_, ⟨fun _ => by have := hb.1; omega, fun _ => Nat.zero_lt_one⟩, .inl ⟨b, hb, rfl⟩, by have := hb.1; rw [List.length_singleton]; omega⟩
   ·exact Ev.step (f := fun _ => some [(b : Int)]) (fun k => by rw [order_Looked.l0, if_neg (by omega), if_pos (by omega)]) (Ev.now _)
   ·exact Ev.step (f := fun k => soritesref14_Looked.l1 k l (wtL (l.getD b z78) : Int) [] ((0 : Nat) : Int)) (fun k => by rw [soritesref14_Looked.l0, if_neg (by omega)]; rfl) (Rfind hl hn hb b 0 (by omega) (Nat.zero_le _))
theorem alive14 : Ev (fun k => soriteslaw14_alive.f k) true := by
 have f1 : fit ⟨1, []⟩ := fitB_iff _ |>.1 (by decide)
 have f2 : fit ⟨2, []⟩ := fitB_iff _ |>.1 (by decide)
 have f0 : fit ⟨0, []⟩ := fitB_iff _ |>.1 (by decide)
 obtain ⟨o, h1, _, _, h2, _⟩ := Looked_spec (l := [⟨false, ⟨1, []⟩, ⟨0, []⟩⟩, ⟨true, ⟨2, []⟩, ⟨0, []⟩⟩]) (by intro x hx; rcases List.mem_cons.1 hx with rfl | hx; exact ⟨f1, f0⟩; rw [List.mem_singleton] at hx; subst hx; exact ⟨f2, f0⟩) (by decide)
 obtain ⟨o2, g1, _, g2, _, _⟩ := Looked_spec (l := []) (by intro x hx; cases hx) (by decide)
 have ho : o = [1] := by
  rcases h2 with ⟨b, hb, rfl⟩ | ⟨hno, _⟩
  ·have hb1 : b < 2 := hb.1
   have hb2 := hb.2.1
   have : b = 1 := by
    rcases (show b = 0 ∨ b = 1 by omega) with rfl | rfl
    ·cases hb2
    ·rfl
   subst this
   rfl
  ·have := hno 1 (by decide)
   cases this
 have ho2 : o2 = [] := by
  cases o2 with
  | nil => rfl
  | cons y r => exact absurd (g2.1 (by simp)) (Nat.lt_irrefl _)
 subst ho ho2
 unfold soriteslaw14_alive.f
 refine Ev.bind h1 ?_
 exact Ev.congr (f := fun n => (order_Looked.f n []).bind fun t385 => some ((t385.length : Int) == 0)) (fun n => by rw [if_pos (by decide), if_pos (by decide), if_pos (by decide)]) (Ev.bind g1 (Ev.now _))
end
section
theorem grL_turned (x y : S78) : grL x ⟨y.f0, y.f2, y.f1⟩ = grL x y := by
 refine multi_congr (fun _ => rfl) (fun z => ?_)
 unfold termsT
 by_cases hy : y.f0 = true
 ·simp only [hy, if_true, cnt_cons]; omega
 ·simp only [hy, Bool.false_eq_true, if_false, cnt_cons]; omega
end
section
theorem wrap_nat (k : Nat) (h : k < 1000000) : wrap64 ((k : Int) + 1) = ((k + 1 : Nat) : Int) := by unfold wrap64; omega
theorem term_at {W : World} {A : Option Addr} {l : List S24} (hC : k24.C W A l.length l) (k : Nat) (t : S24) (hk : l[k]? = some t) : ∃ ad B e, A = some ad ∧ W.cell? (ad.add (k * 2)) = some (.int .i64 t.f0) ∧ W.cell? ⟨(ad.add (k * 2)).block, (ad.add (k * 2)).off + 1, none⟩ = some (.slice B t.f1.length e) ∧ t.f1.length ≤ e ∧ k24.C W B t.f1.length t.f1 := by
 have hl := (List.getElem?_eq_some_iff.1 hk).1
 obtain ⟨ad, B, e, h0, h1, h2, h3, h4⟩ := at_T24 hC (k : Int) (by omega) (by omega)
 have hrd : rd_T24 l (k : Int) = t := by unfold rd_T24; rw [Int.toNat_natCast, List.getD_eq_getElem?_getD, hk]; rfl
 rw [hrd] at h1 h2 h3 h4
 rw [Int.toNat_natCast] at h1 h2
 exact ⟨ad, B, e, h0, h1, h2, h3, h4⟩
end
section
structure LitP (W : World) (x : S78) (A : Option Addr) (c : Nat) (B : Option Addr) (e : Nat) : Prop where
 l1 : x.f1.f1.length ≤ c
 c1 : k30.C W A x.f1.f1.length x.f1.f1
 l2 : x.f2.f1.length ≤ e
 c2 : k30.C W B x.f2.f1.length x.f2.f1
theorem LitP.below {W W' : World} {x : S78} {A B : Option Addr} {c e : Nat} (h : LitP W x A c B e) (hb : Below W.heap.size W W') : LitP W' x A c B e := ⟨h.l1, Kd.C_below h.c1 hb, h.l2, Kd.C_below h.c2 hb⟩
theorem C_one {α : Type} (d : Kd α) {W : World} {g t : Nat} {x : α} {cs : List Value} (h : d.K W x cs) (hb : W.heap[g]? = some (.cells cs.toArray t (0, 0))) : d.C W (some ⟨g, 0, none⟩) 1 [x] := by
 refine ⟨rfl, by simp, fun _ => ⟨_, rfl, fun j p hj => ?_⟩⟩
 match j with
 | 0 =>
  simp at hj
  subst hj
  refine ⟨cs, d.K_len h, h, fun i u hi => ?_⟩
  rw [show (⟨g, 0, none⟩ : Addr).add (0 * d.sz + i) = ⟨g, i, none⟩ by simp [Addr.add_lit]]
  exact (yaa_ hb _).trans (by simpa using hi)
 | j + 1 => simp at hj
theorem GrP_calls {x y : S78} (hx : fitL x) (hy : fitL y) {A B A' B' : Option Addr} {c e c' e' : Nat} {W : World} (h : LitP W x A c B e) (h' : LitP W y A' c' B' e') :
  Calls Try.prog 66 #[.agg #[.bool x.f0, .int .i64 x.f1.f0, .slice A x.f1.f1.length c, .int .i64 x.f2.f0, .slice B x.f2.f1.length e], .agg #[.bool y.f0, .int .i64 y.f1.f0, .slice A' y.f1.f1.length c', .int .i64 y.f2.f0, .slice B' y.f2.f1.length e']] W fun r w' => r = .returned (.bool (grL x y)) ∧ Below W.heap.size W w' :=
 order_Greater.calls x.f0 x.f1.f0 A c x.f1.f1 x.f2.f0 B e x.f2.f1 y.f0 y.f1.f0 A' c' y.f1.f1 y.f2.f0 B' e' y.f2.f1 _ W h.c1 h.l1 h.c2 h.l2 h'.c1 h'.l1 h'.c2 h'.l2 (OGreater_of hx hy)
end
section
def orientL (a b : S30) : List (List S30) := (if kcmp a b < 1 then [] else [[a, b]]) ++ (if kcmp b a < 1 then [] else [[b, a]])
theorem orientL_len (a b : S30) : (orientL a b).length = left2n (decide (kcmp a b < 1)) (decide (kcmp b a < 1)) := by
 unfold orientL left2n
 by_cases h1 : kcmp a b < 1 <;> by_cases h2 : kcmp b a < 1 <;> simp [h1, h2]
theorem Orient_calls {x : S78} (hx : fitL x) {A B : Option Addr} {c e : Nat} {W : World} (h : LitP W x A c B e) :
  Calls Try.prog 68 #[.agg #[.bool x.f0, .int .i64 x.f1.f0, .slice A x.f1.f1.length c, .int .i64 x.f2.f0, .slice B x.f2.f1.length e]] W fun r w' => ∃ g cs, r = .returned (.slice (some ⟨g, 0, none⟩) (orientL x.f1 x.f2).length 2) ∧ W.heap.size ≤ g ∧ Below W.heap.size W w' ∧ w'.heap[g]? = some (.cells cs 89 (0, 0)) ∧ cs.size = 8 ∧
   ∀ t, t < (orientL x.f1 x.f2).length * 4 → cs[t]? = (left2 (decide (kcmp x.f1 x.f2 < 1)) (decide (kcmp x.f2 x.f1 < 1)) [.int .i64 x.f1.f0, .slice A x.f1.f1.length c, .int .i64 x.f2.f0, .slice B x.f2.f1.length e] [.int .i64 x.f2.f0, .slice B x.f2.f1.length e, .int .i64 x.f1.f0, .slice A x.f1.f1.length c])[t]? := by
 obtain ⟨K1, h1⟩ := KCompare_spec x.f1 x.f2 hx.1 hx.2
 obtain ⟨K2, h2⟩ := KCompare_spec x.f2 x.f1 hx.2 hx.1
 rw [orientL_len]
 exact Orient_P (K1 + K2) x.f0 x.f1 x.f2 A B c e _ _ W h.c1 h.l1 h.c2 h.l2 (h1 _ (by omega)) (h2 _ (by omega))
end
section
def atomT (t : S30) : S30 := ⟨20, [t]⟩
def litT (n : Bool) (t : S30) : S78 := ⟨n, atomT t, ⟨0, []⟩⟩
theorem multi_rep (n : Nat) (hn : 0 < n) (a d : S30) : multiT (List.replicate n a) (List.replicate n d) = gtT a d := by
 have hc : ∀ e x : S30, cnt (List.replicate n e) x = if sameT x e = true then n else 0 := by
  intro e x
  unfold cnt
  rw [List.countP_replicate]
 rw [Bool.eq_iff_iff, multi_iff]
 unfold DM
 constructor
 ·rintro ⟨⟨x, hx⟩, h⟩
  rw [hc, hc] at hx
  by_cases hxa : sameT x a = true
  ·by_cases hxd : sameT x d = true
   ·rw [if_pos hxa, if_pos hxd] at hx; omega
   ·have hnd : ¬ sameT a d = true := fun e => hxd (same_trans hxa e)
    obtain ⟨z, hz, hz2⟩ := h d (by rw [hc, hc, if_pos (same_refl d), if_neg (fun e => hnd (same_symm e))]; exact hn)
    rw [hc, hc] at hz2
    by_cases hza : sameT z a = true
    ·rw [← gt_congr z a d d (same_iff.1 hza) (cmp_self d)]; exact hz
    ·rw [if_neg hza] at hz2; omega
  ·rw [if_neg hxa] at hx; omega
 ·intro hg
  have hnd : ¬ sameT a d = true := fun e => by rw [gt_same (same_iff.1 e)] at hg; cases hg
  refine ⟨⟨a, by rw [hc, hc, if_pos (same_refl a), if_neg hnd]; exact hn⟩, fun y hy => ⟨a, ?_, by rw [hc, hc, if_pos (same_refl a), if_neg hnd]; exact hn⟩⟩
  rw [hc, hc] at hy
  by_cases hyd : sameT y d = true
  ·rw [gt_congr a a y d (cmp_self a) (same_iff.1 hyd)]; exact hg
  ·rw [if_neg hyd] at hy; omega
theorem gr_atoms (n : Bool) (s t : S30) : grL (litT n s) (litT n t) = gtT (atomT s) (atomT t) := by
 cases n
 ·exact (multi_shared [atomT s] [atomT t] [⟨0, []⟩]).trans (multi_rep 1 (by decide) (atomT s) (atomT t))
 ·exact (multi_shared [atomT s, atomT s] [atomT t, atomT t] [⟨0, []⟩, ⟨0, []⟩]).trans (multi_rep 2 (by decide) (atomT s) (atomT t))
theorem nodes_atom (t : S30) : (nodes (atomT t)).length = (nodes t).length + 1 := by
 simp [atomT, nodes, nodess]
theorem gt_atom (t : S30) : gtT (atomT t) ⟨0, []⟩ = true := by
 have h1 := nodes_atom t
 have h2 := nodes_pos t
 have h3 : (nodes (⟨0, []⟩ : S30)).length = 1 := by simp [nodes, nodess]
 have hc : covT (atomT t) ⟨0, []⟩ = true := by simp [covT, nodes, nodess]
 unfold atomT at h1 hc ⊢
 rw [gtT, hc, if_neg (by omega)]
 simp only [Bool.true_and, decide_eq_true_eq]
 omega
theorem kcmp_atom (t : S30) : kcmp (atomT t) ⟨0, []⟩ = 1 ∧ kcmp ⟨0, []⟩ (atomT t) = -1 := by
 have hg := gt_atom t
 have h0 : cmpT (atomT t) ⟨0, []⟩ ≠ 0 := fun e => by rw [gt_same e] at hg; cases hg
 have h0' : cmpT ⟨0, []⟩ (atomT t) ≠ 0 := fun e => h0 (eqv_symm e)
 have hn : ¬ gtT ⟨0, []⟩ (atomT t) = true := fun e => by
  have := gt_trans _ _ _ hg e
  rw [gt_irrefl] at this
  cases this
 unfold kcmp
 rw [if_neg h0, if_pos hg, if_neg h0', if_neg hn, if_pos hg]
 exact ⟨rfl, rfl⟩
theorem orient_atom (t : S30) : (orientL (atomT t) ⟨0, []⟩).length = 1 ∧ (orientL ⟨0, []⟩ (atomT t)).length = 1 := by
 obtain ⟨h1, h2⟩ := kcmp_atom t
 constructor
 ·rw [orientL_len, h1, h2]; rfl
 ·rw [orientL_len, h1, h2]; rfl
theorem ok_atom {t : S30} (h : ok t) : ok (atomT t) := ⟨by decide, by decide, by simp [atomT], ⟨h, trivial⟩⟩
theorem fit_atom {t : S30} (h : ok t) (hw : wt t ≤ 12) : fit (atomT t) := fit_of_ok _ (ok_atom h) (by rw [nodes_atom]; have := nodes_le t; omega)
theorem fit_nil : fit (⟨0, []⟩ : S30) := fit_of_ok _ ⟨by decide, by decide, by simp, trivial⟩ (by simp [nodes, nodess])
theorem fit_lit {n : Bool} {t : S30} (h : ok t) (hw : wt t ≤ 12) : fitL (litT n t) := ⟨fit_atom h hw, fit_nil⟩
def turnL (x : S78) : S78 := ⟨x.f0, x.f2, x.f1⟩
theorem gr_turn (x : S78) : grL x (turnL x) = false := (grL_turned x x).trans (grL_irrefl x)
def Hvy (cl : List S78) (hh aa : Int) : Prop := (aa = -1 ∧ hh = 0 ∧ NoNeg cl cl.length) ∨ ∃ b : Nat, aa = (b : Int) ∧ hh = ((nodes (cl.getD b z78).f1).length : Int) ∧ IsBest cl cl.length b
theorem getD_app (cl : List S78) (x : S78) (j : Nat) (h : j < cl.length) : (cl ++ [x]).getD j z78 = cl.getD j z78 := by
 simp [List.getD_eq_getElem?_getD, List.getElem?_append_left h]
theorem getD_last (cl : List S78) (x : S78) : (cl ++ [x]).getD cl.length z78 = x := by
 simp [List.getD_eq_getElem?_getD]
theorem NoNeg.app {cl : List S78} {x : S78} (h : NoNeg cl cl.length) : NoNeg (cl ++ [x]) cl.length := fun j hj => by rw [getD_app cl x j hj]; exact h j hj
theorem IsBest.app {cl : List S78} {x : S78} {b : Nat} (h : IsBest cl cl.length b) : IsBest (cl ++ [x]) cl.length b := by
 obtain ⟨h1, h2, h3, h4⟩ := h
 refine ⟨h1, by rw [getD_app cl x b h1]; exact h2, fun j hj => ?_, fun j hj => ?_⟩
 ·rw [getD_app cl x b h1, getD_app cl x j hj]; exact h3 j hj
 ·rw [getD_app cl x b h1, getD_app cl x j (by omega)]; exact h4 j hj
def AtomLit (x : S78) : Prop := ∃ n t, x = litT n t ∧ ok t ∧ wt t ≤ 12
theorem wt_atom {x : S78} (h : AtomLit x) : wtL x = (nodes x.f1).length + 1 := by
 obtain ⟨n, t, rfl, _, _⟩ := h
 simp [wtL, litT, nodes, nodess]
theorem atom_at {cl : List S78} (h : ∀ x ∈ cl, AtomLit x) {b : Nat} (hb : b < cl.length) : AtomLit (cl.getD b z78) := by
 rw [List.getD_eq_getElem?_getD, List.getElem?_eq_getElem hb]
 exact h _ (List.getElem_mem hb)
theorem Hvy.step {cl : List S78} {hh aa : Int} (hc : ∀ x ∈ cl, AtomLit x) (h : Hvy cl hh aa) {x : S78} (hx : AtomLit x) :
  (x.f0 = true → hh < ((nodes x.f1).length : Int) → Hvy (cl ++ [x]) ((nodes x.f1).length : Int) (cl.length : Int)) ∧ (¬ (x.f0 = true ∧ hh < ((nodes x.f1).length : Int)) → Hvy (cl ++ [x]) hh aa) := by
 have hlen : (cl ++ [x]).length = cl.length + 1 := by simp
 have hw := wt_atom hx
 constructor
 ·intro h0 hlt
  refine .inr ⟨cl.length, rfl, by rw [getD_last], ?_⟩
  rw [hlen]
  rcases h with ⟨_, _, hN⟩ | ⟨b, _, hh2, hB⟩
  ·exact IsBest.first (NoNeg.app hN) (by rw [getD_last]; exact h0)
  ·refine IsBest.new (IsBest.app hB) (by rw [getD_last]; exact h0) ?_
   have hwb := wt_atom (atom_at hc hB.1)
   rw [getD_last, getD_app cl x b hB.1]
   omega
 ·intro hn
  rcases h with ⟨e1, e2, hN⟩ | ⟨b, e1, e2, hB⟩
  ·refine .inl ⟨e1, e2, ?_⟩
   rw [hlen]
   refine lt_succ_cases (NoNeg.app hN) ?_
   rw [getD_last]
   cases h0 : x.f0 with
   | false => rfl
   | true => exact absurd ⟨h0, by have := nodes_pos x.f1; omega⟩ hn
  ·refine .inr ⟨b, e1, by rw [getD_app cl x b hB.1]; exact e2, ?_⟩
   rw [hlen]
   refine IsBest.keep (IsBest.app hB) (fun h0 => ?_)
   rw [getD_last] at h0 ⊢
   rw [getD_app cl x b hB.1]
   have hwb := wt_atom (atom_at hc hB.1)
   have : ¬ hh < ((nodes x.f1).length : Int) := fun h => hn ⟨h0, h⟩
   omega
theorem Looked_atoms {cl : List S78} {hh aa : Int} (hc : ∀ x ∈ cl, AtomLit x) (hn : cl.length ≤ 1000000) (h : Hvy cl hh aa) : ∃ k o, order_Looked.f k cl = some o ∧ (0 ≤ aa → o = [aa]) := by
 obtain ⟨o, h1, _, _, h4, _⟩ := Looked_spec (l := cl) (fun x hx => by obtain ⟨n, t, rfl, h1, h2⟩ := hc x hx; exact fit_lit h1 h2) hn
 obtain ⟨k, hk⟩ := h1.rounds
 refine ⟨k, o, hk, fun ha => ?_⟩
 rcases h with ⟨e1, _, _⟩ | ⟨b, e1, _, hB⟩
 ·omega
 ·rcases h4 with ⟨b', hB', ho⟩ | ⟨hN, _⟩
  ·rw [ho, e1, IsBest.uniq hB hB']
  ·have h5 := hN b hB.1
   rw [hB.2.1] at h5
   cases h5
end
section
def Own78 (w0 W : World) (v : Value) (xs : List S78) : Prop := Kd.N k78 78 W w0.heap.size (fun k => w0.heap.size ≤ k) v xs ∧ Below w0.heap.size w0 W
theorem Own78.nil (w0 : World) : Own78 w0 w0 (.slice none 0 0) [] := ⟨Kd.N_nil _ _ _ _ _, Below.refl _ _⟩
theorem Own78.below {w0 W W' : World} {v : Value} {xs : List S78} (h : Own78 w0 W v xs) (hb : Below W.heap.size W W') : Own78 w0 W' v xs := ⟨Kd.N_below h.1 hb, h.2.trans (hb.mono h.2.size)⟩
theorem Own78.reads {w0 W : World} {v : Value} {xs : List S78} (h : Own78 w0 W v xs) : ∃ A c, v = .slice A xs.length c ∧ xs.length ≤ c ∧ k78.C W A xs.length xs := by
 obtain ⟨A, c, rfl, hc, hF⟩ := Kd.N_V (base' := 0) h.1
 exact ⟨A, c, rfl, hc, Kd.F_now hF⟩
def Fresh1 (N : Nat) (W : World) (t : S30) (tb : Nat) : Prop := N ≤ tb ∧ Kd.F k30 W (fun k => N ≤ k) (some ⟨tb, 0, none⟩) 1 [t]
theorem fresh1_mk {W W1 W2 : World} {A : Option Addr} {n c tb : Nat} {t : S30} (N : Nat) (hN : N ≤ W.heap.size) (hR : Kd.R k30 30 W1 W.heap.size (fun _ => True) (.slice A n c) t.f1) (hb : Below W1.heap.size W1 W2) (hs : N ≤ tb) (hg : W2.heap[tb]? = some (.cells #[.int .i64 t.f0, .slice A n c] 30 (0, 0))) : n = t.f1.length ∧ Fresh1 N W2 t tb := by
 have hR' := Kd.R_mono (ok' := fun k => N ≤ k) (Kd.R_bound hR) (fun k hk => Nat.le_trans hN hk.2.1)
 obtain ⟨h1, h2, _⟩ := Kd.R_reads' hR
 subst h1
 refine ⟨rfl, hs, fun W' hW => ?_⟩
 have hF := Kd.F_below (Kd.V_F (Kd.R_V (base' := 0) hR')) hb
 exact C_one k30 (k30_mk W' t h2 (hF W' hW)) ((hW tb hs (blk_lt hg)).trans hg)
theorem Own78.elem {w0 wr W : World} {v : Value} {xs : List S78} (h : Own78 w0 wr v xs) {t : S30} {tb : Nat} {n : Bool} (hf : Fresh1 wr.heap.size W t tb) :
  Kd.FK k78 W (fun k => w0.heap.size ≤ k ∧ some k ≠ v.ownBlock) (litT n t) [.bool n, .int .i64 20, .slice (some ⟨tb, 0, none⟩) 1 1, .int .i64 0, .slice none 0 0] := by
 have hF := Kd.F_mono (ok' := fun k => w0.heap.size ≤ k ∧ some k ≠ v.ownBlock) hf.2 (fun k hk => ⟨Nat.le_trans h.2.size hk, fun he => by have := Kd.N_lt h.1 k he.symm; omega⟩)
 exact k78_mkF W _ (litT n t) (A2 := some ⟨tb, 0, none⟩) (c2 := 1) (Nat.le_refl 1) hF (A4 := none) (c4 := 0) (Nat.le_refl 0) (Kd.F_nil k30 W _)
theorem lit78_at {W : World} {A : Option Addr} {l : List S78} (hC : k78.C W A l.length l) (i : Nat) (x : S78) (hx : l[i]? = some x) : ∃ ad B c D e, A = some ad ∧ LitP W x B c D e ∧ W.cell? (ad.add (i * 5)) = some (.bool x.f0) ∧ W.cell? ⟨(ad.add (i * 5)).block, (ad.add (i * 5)).off + 1, none⟩ = some (.int .i64 x.f1.f0) ∧ W.cell? ⟨(ad.add (i * 5)).block, (ad.add (i * 5)).off + 2, none⟩ = some (.slice B x.f1.f1.length c) ∧ W.cell? ⟨(ad.add (i * 5)).block, (ad.add (i * 5)).off + 3, none⟩ = some (.int .i64 x.f2.f0) ∧ W.cell? ⟨(ad.add (i * 5)).block, (ad.add (i * 5)).off + 4, none⟩ = some (.slice D x.f2.f1.length e) := by
 have hi := (List.getElem?_eq_some_iff.1 hx).1
 obtain ⟨ad, A2, c2, A4, c4, e, x0, x1, x2, x3, x4, l2, g2, l4, g4⟩ := at_T78 hC (i : Int) (by omega) (by omega)
 have hrd : rd_T78 l (i : Int) = x := by unfold rd_T78; rw [Int.toNat_natCast, List.getD_eq_getElem?_getD, hx]; rfl
 rw [hrd] at x0 x1 x2 x3 x4 l2 g2 l4 g4
 rw [Int.toNat_natCast] at x0 x1 x2 x3 x4
 exact ⟨ad, A2, c2, A4, c4, e, ⟨l2, g2, l4, g4⟩, x0, x1, x2, x3, x4⟩
theorem Size_atom {t : S30} (h : ok t) (hw : wt t ≤ 12) : term_Size.f 20 [t] = some ((nodes (atomT t)).length : Int) := Size_fit (fit_atom h hw)
theorem Greater_calls {x y : S30} (hx : fit x) (hy : fit y) {A B : Option Addr} {c e : Nat} {W : World} (hA : k30.C W A x.f1.length x.f1) (hc : x.f1.length ≤ c) (hB : k30.C W B y.f1.length y.f1) (he : y.f1.length ≤ e) :
  Calls Try.prog 41 #[.agg #[.int .i64 x.f0, .slice A x.f1.length c], .agg #[.int .i64 y.f0, .slice B y.f1.length e]] W fun r w' => r = .returned (.bool (gtT x y)) ∧ Below W.heap.size W w' := by
 obtain ⟨k, hk⟩ := (KGreater_spec x y hx hy).rounds
 exact kbo_Greater.calls k x.f0 A c x.f1 y.f0 B e y.f1 _ W hA hc hB he hk
end
section
theorem setCell5_far {w : World} {g : Nat} {i0 i1 i2 i3 i4 : Nat} {x0 x1 x2 x3 x4 : Value} (k : Nat) (h : k ≠ g) : (((((w.setCell ⟨g, i0, none⟩ x0).setCell ⟨g, i1, none⟩ x1).setCell ⟨g, i2, none⟩ x2).setCell ⟨g, i3, none⟩ x3).setCell ⟨g, i4, none⟩ x4).heap[k]? = w.heap[k]? := (Below.heap_setCell _ _ _ k h).trans ((Below.heap_setCell _ _ _ k h).trans ((Below.heap_setCell _ _ _ k h).trans ((Below.heap_setCell _ _ _ k h).trans (Below.heap_setCell _ _ _ k h))))
end
section
def OneTold : Told := fun u w => ∃ g, u = .slice (some ⟨g, 0, none⟩) 1 2
theorem OneTold.grows' : Told.grows OneTold := fun u w w' h _ => h
set_option maxHeartbeats 4000000 in
set_option maxRecDepth 100000 in
theorem OrderAtoms_r27t {id : Nat} {a : Act} {w : World} {Q : Exit → Act → World → Prop} {ad : Addr} {ln cc i k : Nat} {gr : Bool} {x : S78} {xA xB : Option Addr} {xc xd : Nat} {y : S78} {yA yB : Option Addr} {yc yd : Nat}
  (hr : regionOk #[{ dst := some 89, op := Op.move (Operand.tmp 5), type := 68, pos := "law.go:138", after := #[], guard := none }, { dst := some 90, op := Op.move (Operand.tmp 12), type := 3, pos := "law.go:138", after := #[], guard := none }, { dst := some 91, op := Op.indexAddr 68 (Operand.tmp 89) (Operand.tmp 90), type := 0, pos := "law.go:138", after := #[{ on := 0, ground := Ground.data }, { on := 1, ground := Ground.data }], guard := none }, { dst := some 92, op := Op.fieldAddr 78 (Operand.tmp 91) 0, type := 0, pos := "law.go:138", after := #[{ on := 2, ground := Ground.data }], guard := none }, { dst := some 93, op := Op.load 4 (Operand.tmp 92), type := 4, pos := "law.go:138", after := #[{ on := 3, ground := Ground.data }], guard := none }, { dst := some 94, op := Op.move (Operand.tmp 5), type := 68, pos := "law.go:138", after := #[], guard := none }, { dst := some 95, op := Op.move (Operand.tmp 13), type := 3, pos := "law.go:138", after := #[], guard := none }, { dst := some 96, op := Op.indexAddr 68 (Operand.tmp 94) (Operand.tmp 95), type := 0, pos := "law.go:138", after := #[{ on := 5, ground := Ground.data }, { on := 6, ground := Ground.data }], guard := none }, { dst := some 97, op := Op.fieldAddr 78 (Operand.tmp 96) 0, type := 0, pos := "law.go:138", after := #[{ on := 7, ground := Ground.data }], guard := none }, { dst := some 98, op := Op.load 4 (Operand.tmp 97), type := 4, pos := "law.go:138", after := #[{ on := 8, ground := Ground.data }], guard := none }, { dst := some 99, op := Op.binOp BinOp.eql 4 (Operand.tmp 93) (Operand.tmp 98) 4, type := 4, pos := "law.go:138", after := #[{ on := 4, ground := Ground.data }, { on := 9, ground := Ground.data }], guard := none }, { dst := some 100, op := Op.move (Operand.tmp 99), type := 4, pos := "law.go:138", after := #[{ on := 10, ground := Ground.data }], guard := none }, { dst := some 101, op := Op.move (Operand.tmp 5), type := 68, pos := "law.go:138", after := #[{ on := 11, ground := Ground.guard }], guard := some (11, true) }, { dst := some 102, op := Op.move (Operand.tmp 12), type := 3, pos := "law.go:138", after := #[{ on := 11, ground := Ground.guard }], guard := some (11, true) }, { dst := some 103, op := Op.indexAddr 68 (Operand.tmp 101) (Operand.tmp 102), type := 0, pos := "law.go:138", after := #[{ on := 12, ground := Ground.data }, { on := 13, ground := Ground.data }, { on := 11, ground := Ground.guard }], guard := some (11, true) }, { dst := some 104, op := Op.load 78 (Operand.tmp 103), type := 78, pos := "law.go:138", after := #[{ on := 14, ground := Ground.data }, { on := 11, ground := Ground.guard }], guard := some (11, true) }, { dst := some 105, op := Op.move (Operand.tmp 5), type := 68, pos := "law.go:138", after := #[{ on := 11, ground := Ground.guard }], guard := some (11, true) }, { dst := some 106, op := Op.move (Operand.tmp 13), type := 3, pos := "law.go:138", after := #[{ on := 11, ground := Ground.guard }], guard := some (11, true) }, { dst := some 107, op := Op.indexAddr 68 (Operand.tmp 105) (Operand.tmp 106), type := 0, pos := "law.go:138", after := #[{ on := 16, ground := Ground.data }, { on := 17, ground := Ground.data }, { on := 11, ground := Ground.guard }], guard := some (11, true) }, { dst := some 108, op := Op.load 78 (Operand.tmp 107), type := 78, pos := "law.go:138", after := #[{ on := 18, ground := Ground.data }, { on := 11, ground := Ground.guard }], guard := some (11, true) }, { dst := some 109, op := Op.call { callee := Callee.value (Operand.func 66), args := #[Operand.tmp 104, Operand.tmp 108], argTypes := #[78, 78] }, type := 4, pos := "law.go:138", after := #[{ on := 15, ground := Ground.data }, { on := 19, ground := Ground.data }, { on := 11, ground := Ground.chain }, { on := 11, ground := Ground.guard }], guard := some (11, true) }, { dst := some 110, op := Op.move (Operand.tmp 5), type := 68, pos := "law.go:138", after := #[{ on := 11, ground := Ground.guard }], guard := some (11, true) }, { dst := some 111, op := Op.move (Operand.tmp 12), type := 3, pos := "law.go:138", after := #[{ on := 11, ground := Ground.guard }], guard := some (11, true) }, { dst := some 112, op := Op.indexAddr 68 (Operand.tmp 110) (Operand.tmp 111), type := 0, pos := "law.go:138", after := #[{ on := 21, ground := Ground.data }, { on := 22, ground := Ground.data }, { on := 11, ground := Ground.guard }], guard := some (11, true) }, { dst := some 113, op := Op.fieldAddr 78 (Operand.tmp 112) 1, type := 0, pos := "law.go:138", after := #[{ on := 23, ground := Ground.data }, { on := 11, ground := Ground.guard }], guard := some (11, true) }, { dst := some 114, op := Op.load 30 (Operand.tmp 113), type := 30, pos := "law.go:138", after := #[{ on := 24, ground := Ground.data }, { on := 11, ground := Ground.guard }], guard := some (11, true) }, { dst := some 115, op := Op.move (Operand.tmp 5), type := 68, pos := "law.go:138", after := #[{ on := 11, ground := Ground.guard }], guard := some (11, true) }, { dst := some 116, op := Op.move (Operand.tmp 13), type := 3, pos := "law.go:138", after := #[{ on := 11, ground := Ground.guard }], guard := some (11, true) }, { dst := some 117, op := Op.indexAddr 68 (Operand.tmp 115) (Operand.tmp 116), type := 0, pos := "law.go:138", after := #[{ on := 26, ground := Ground.data }, { on := 27, ground := Ground.data }, { on := 11, ground := Ground.guard }], guard := some (11, true) }, { dst := some 118, op := Op.fieldAddr 78 (Operand.tmp 117) 1, type := 0, pos := "law.go:138", after := #[{ on := 28, ground := Ground.data }, { on := 11, ground := Ground.guard }], guard := some (11, true) }, { dst := some 119, op := Op.load 30 (Operand.tmp 118), type := 30, pos := "law.go:138", after := #[{ on := 29, ground := Ground.data }, { on := 11, ground := Ground.guard }], guard := some (11, true) }, { dst := some 120, op := Op.call { callee := Callee.value (Operand.func 41), args := #[Operand.tmp 114, Operand.tmp 119], argTypes := #[30, 30] }, type := 4, pos := "law.go:138", after := #[{ on := 25, ground := Ground.data }, { on := 30, ground := Ground.data }, { on := 20, ground := Ground.chain }, { on := 11, ground := Ground.guard }], guard := some (11, true) }, { dst := some 121, op := Op.binOp BinOp.neq 4 (Operand.tmp 109) (Operand.tmp 120) 4, type := 4, pos := "law.go:138", after := #[{ on := 20, ground := Ground.data }, { on := 31, ground := Ground.data }, { on := 11, ground := Ground.guard }], guard := some (11, true) }, { dst := some 122, op := Op.pick (Operand.tmp 100) (Operand.tmp 121) (Operand.const (Value.bool false)), type := 4, pos := "law.go:138", after := #[{ on := 11, ground := Ground.data }, { on := 32, ground := Ground.data }], guard := none }] a.tmps.size = true)
  (hT5 : a.tmps.getD 5 undef = .slice (some ad) ln cc)
  (hT12 : a.tmps.getD 12 undef = .int .i64 (i : Int))
  (hT13 : a.tmps.getD 13 undef = .int .i64 (k : Int))
  (hF20 : ∀ w1, Below w.heap.size w w1 → Calls Try.prog 66 #[.agg #[.bool x.f0, .int .i64 x.f1.f0, .slice xA x.f1.f1.length xc, .int .i64 x.f2.f0, .slice xB x.f2.f1.length xd], .agg #[.bool y.f0, .int .i64 y.f1.f0, .slice yA y.f1.f1.length yc, .int .i64 y.f2.f0, .slice yB y.f2.f1.length yd]] w1 fun e w2 => e = .returned (.bool gr) ∧ Below w1.heap.size w1 w2)
  (hF31 : ∀ w1, Below w.heap.size w w1 → Calls Try.prog 41 #[.agg #[.int .i64 x.f1.f0, .slice xA x.f1.f1.length xc], .agg #[.int .i64 y.f1.f0, .slice yA y.f1.f1.length yc]] w1 fun e w2 => e = .returned (.bool gr) ∧ Below w1.heap.size w1 w2)
  (hi : i < ln) (hk : k < ln) (hlc : ln ≤ cc) (hq1 : (x.f0 == y.f0) = true) (hq2 : decide (x.f0 = y.f0) = true)
  (hx0 : w.cell? (ad.add (i * 5)) = some (.bool x.f0))
  (hx1 : w.cell? ⟨(ad.add (i * 5)).block, (ad.add (i * 5)).off + 1, none⟩ = some (.int .i64 x.f1.f0))
  (hx2 : w.cell? ⟨(ad.add (i * 5)).block, (ad.add (i * 5)).off + 2, none⟩ = some (.slice xA x.f1.f1.length xc))
  (hx3 : w.cell? ⟨(ad.add (i * 5)).block, (ad.add (i * 5)).off + 3, none⟩ = some (.int .i64 x.f2.f0))
  (hx4 : w.cell? ⟨(ad.add (i * 5)).block, (ad.add (i * 5)).off + 4, none⟩ = some (.slice xB x.f2.f1.length xd))
  (hy0 : w.cell? (ad.add (k * 5)) = some (.bool y.f0))
  (hy1 : w.cell? ⟨(ad.add (k * 5)).block, (ad.add (k * 5)).off + 1, none⟩ = some (.int .i64 y.f1.f0))
  (hy2 : w.cell? ⟨(ad.add (k * 5)).block, (ad.add (k * 5)).off + 2, none⟩ = some (.slice yA y.f1.f1.length yc))
  (hy3 : w.cell? ⟨(ad.add (k * 5)).block, (ad.add (k * 5)).off + 3, none⟩ = some (.int .i64 y.f2.f0))
  (hy4 : w.cell? ⟨(ad.add (k * 5)).block, (ad.add (k * 5)).off + 4, none⟩ = some (.slice yB y.f2.f1.length yd))
  (hK : ∀ v w', Below w.heap.size w w' → v 33 = .bool false → Q .normal { tmps := layL [some 89, some 90, some 91, some 92, some 93, some 94, some 95, some 96, some 97, some 98, some 99, some 100, some 101, some 102, some 103, some 104, some 105, some 106, some 107, some 108, some 109, some 110, some 111, some 112, some 113, some 114, some 115, some 116, some 117, some 118, some 119, some 120, some 121, some 122] 0 v a.tmps, defers := a.defers } w') :
  (Code.region id #[{ dst := some 89, op := Op.move (Operand.tmp 5), type := 68, pos := "law.go:138", after := #[], guard := none }, { dst := some 90, op := Op.move (Operand.tmp 12), type := 3, pos := "law.go:138", after := #[], guard := none }, { dst := some 91, op := Op.indexAddr 68 (Operand.tmp 89) (Operand.tmp 90), type := 0, pos := "law.go:138", after := #[{ on := 0, ground := Ground.data }, { on := 1, ground := Ground.data }], guard := none }, { dst := some 92, op := Op.fieldAddr 78 (Operand.tmp 91) 0, type := 0, pos := "law.go:138", after := #[{ on := 2, ground := Ground.data }], guard := none }, { dst := some 93, op := Op.load 4 (Operand.tmp 92), type := 4, pos := "law.go:138", after := #[{ on := 3, ground := Ground.data }], guard := none }, { dst := some 94, op := Op.move (Operand.tmp 5), type := 68, pos := "law.go:138", after := #[], guard := none }, { dst := some 95, op := Op.move (Operand.tmp 13), type := 3, pos := "law.go:138", after := #[], guard := none }, { dst := some 96, op := Op.indexAddr 68 (Operand.tmp 94) (Operand.tmp 95), type := 0, pos := "law.go:138", after := #[{ on := 5, ground := Ground.data }, { on := 6, ground := Ground.data }], guard := none }, { dst := some 97, op := Op.fieldAddr 78 (Operand.tmp 96) 0, type := 0, pos := "law.go:138", after := #[{ on := 7, ground := Ground.data }], guard := none }, { dst := some 98, op := Op.load 4 (Operand.tmp 97), type := 4, pos := "law.go:138", after := #[{ on := 8, ground := Ground.data }], guard := none }, { dst := some 99, op := Op.binOp BinOp.eql 4 (Operand.tmp 93) (Operand.tmp 98) 4, type := 4, pos := "law.go:138", after := #[{ on := 4, ground := Ground.data }, { on := 9, ground := Ground.data }], guard := none }, { dst := some 100, op := Op.move (Operand.tmp 99), type := 4, pos := "law.go:138", after := #[{ on := 10, ground := Ground.data }], guard := none }, { dst := some 101, op := Op.move (Operand.tmp 5), type := 68, pos := "law.go:138", after := #[{ on := 11, ground := Ground.guard }], guard := some (11, true) }, { dst := some 102, op := Op.move (Operand.tmp 12), type := 3, pos := "law.go:138", after := #[{ on := 11, ground := Ground.guard }], guard := some (11, true) }, { dst := some 103, op := Op.indexAddr 68 (Operand.tmp 101) (Operand.tmp 102), type := 0, pos := "law.go:138", after := #[{ on := 12, ground := Ground.data }, { on := 13, ground := Ground.data }, { on := 11, ground := Ground.guard }], guard := some (11, true) }, { dst := some 104, op := Op.load 78 (Operand.tmp 103), type := 78, pos := "law.go:138", after := #[{ on := 14, ground := Ground.data }, { on := 11, ground := Ground.guard }], guard := some (11, true) }, { dst := some 105, op := Op.move (Operand.tmp 5), type := 68, pos := "law.go:138", after := #[{ on := 11, ground := Ground.guard }], guard := some (11, true) }, { dst := some 106, op := Op.move (Operand.tmp 13), type := 3, pos := "law.go:138", after := #[{ on := 11, ground := Ground.guard }], guard := some (11, true) }, { dst := some 107, op := Op.indexAddr 68 (Operand.tmp 105) (Operand.tmp 106), type := 0, pos := "law.go:138", after := #[{ on := 16, ground := Ground.data }, { on := 17, ground := Ground.data }, { on := 11, ground := Ground.guard }], guard := some (11, true) }, { dst := some 108, op := Op.load 78 (Operand.tmp 107), type := 78, pos := "law.go:138", after := #[{ on := 18, ground := Ground.data }, { on := 11, ground := Ground.guard }], guard := some (11, true) }, { dst := some 109, op := Op.call { callee := Callee.value (Operand.func 66), args := #[Operand.tmp 104, Operand.tmp 108], argTypes := #[78, 78] }, type := 4, pos := "law.go:138", after := #[{ on := 15, ground := Ground.data }, { on := 19, ground := Ground.data }, { on := 11, ground := Ground.chain }, { on := 11, ground := Ground.guard }], guard := some (11, true) }, { dst := some 110, op := Op.move (Operand.tmp 5), type := 68, pos := "law.go:138", after := #[{ on := 11, ground := Ground.guard }], guard := some (11, true) }, { dst := some 111, op := Op.move (Operand.tmp 12), type := 3, pos := "law.go:138", after := #[{ on := 11, ground := Ground.guard }], guard := some (11, true) }, { dst := some 112, op := Op.indexAddr 68 (Operand.tmp 110) (Operand.tmp 111), type := 0, pos := "law.go:138", after := #[{ on := 21, ground := Ground.data }, { on := 22, ground := Ground.data }, { on := 11, ground := Ground.guard }], guard := some (11, true) }, { dst := some 113, op := Op.fieldAddr 78 (Operand.tmp 112) 1, type := 0, pos := "law.go:138", after := #[{ on := 23, ground := Ground.data }, { on := 11, ground := Ground.guard }], guard := some (11, true) }, { dst := some 114, op := Op.load 30 (Operand.tmp 113), type := 30, pos := "law.go:138", after := #[{ on := 24, ground := Ground.data }, { on := 11, ground := Ground.guard }], guard := some (11, true) }, { dst := some 115, op := Op.move (Operand.tmp 5), type := 68, pos := "law.go:138", after := #[{ on := 11, ground := Ground.guard }], guard := some (11, true) }, { dst := some 116, op := Op.move (Operand.tmp 13), type := 3, pos := "law.go:138", after := #[{ on := 11, ground := Ground.guard }], guard := some (11, true) }, { dst := some 117, op := Op.indexAddr 68 (Operand.tmp 115) (Operand.tmp 116), type := 0, pos := "law.go:138", after := #[{ on := 26, ground := Ground.data }, { on := 27, ground := Ground.data }, { on := 11, ground := Ground.guard }], guard := some (11, true) }, { dst := some 118, op := Op.fieldAddr 78 (Operand.tmp 117) 1, type := 0, pos := "law.go:138", after := #[{ on := 28, ground := Ground.data }, { on := 11, ground := Ground.guard }], guard := some (11, true) }, { dst := some 119, op := Op.load 30 (Operand.tmp 118), type := 30, pos := "law.go:138", after := #[{ on := 29, ground := Ground.data }, { on := 11, ground := Ground.guard }], guard := some (11, true) }, { dst := some 120, op := Op.call { callee := Callee.value (Operand.func 41), args := #[Operand.tmp 114, Operand.tmp 119], argTypes := #[30, 30] }, type := 4, pos := "law.go:138", after := #[{ on := 25, ground := Ground.data }, { on := 30, ground := Ground.data }, { on := 20, ground := Ground.chain }, { on := 11, ground := Ground.guard }], guard := some (11, true) }, { dst := some 121, op := Op.binOp BinOp.neq 4 (Operand.tmp 109) (Operand.tmp 120) 4, type := 4, pos := "law.go:138", after := #[{ on := 20, ground := Ground.data }, { on := 31, ground := Ground.data }, { on := 11, ground := Ground.guard }], guard := some (11, true) }, { dst := some 122, op := Op.pick (Operand.tmp 100) (Operand.tmp 121) (Operand.const (Value.bool false)), type := 4, pos := "law.go:138", after := #[{ on := 11, ground := Ground.data }, { on := 32, ground := Ground.data }], guard := none }] true).wp Try.prog Q a w := by
 have hmx : Try.prog.follows .mixedOrders = true := by kernel_rfl
 refine region_detR 34 hmx hr (by kernel_rfl) ?_
 refine DetR.is (o := { dst := some 89, op := Op.move (Operand.tmp 5), type := 68, pos := "law.go:138", after := #[], guard := none }) (u := ?ux1) rfl (by decide) (fun T w' hb hd hB K hK => ?sx1) ?rx1
 case sx1 =>
  have e5 := (hB 5 (by kernel_rfl)).trans hT5
  rw [if_pos (yac_ _ rfl)]
  clear hd hB
  go_simp
  exact hK _ (Below.refl _ _)
 refine DetR.is (o := { dst := some 90, op := Op.move (Operand.tmp 12), type := 3, pos := "law.go:138", after := #[], guard := none }) (u := ?ux2) rfl (by decide) (fun T w' hb hd hB K hK => ?sx2) ?rx2
 case sx2 =>
  have e12 := (hB 12 (by kernel_rfl)).trans hT12
  rw [if_pos (yac_ _ rfl)]
  clear hd hB
  go_simp
  exact hK _ (Below.refl _ _)
 refine DetR.is (o := { dst := some 91, op := Op.indexAddr 68 (Operand.tmp 89) (Operand.tmp 90), type := 0, pos := "law.go:138", after := #[{ on := 0, ground := Ground.data }, { on := 1, ground := Ground.data }], guard := none }) (u := .pointer (some (ad.add (i * 5)))) rfl (by decide) (fun T w' hb hd hB K hK => ?sx3) ?rx3
 case sx3 =>
  have e89 := hd 0 89 _ (by decide) (by kernel_rfl) rfl rfl
  replace e89 : T.getD 89 undef = _ := e89
  have e90 := hd 1 90 _ (by decide) (by kernel_rfl) rfl rfl
  replace e90 : T.getD 90 undef = _ := e90
  rw [if_pos (yac_ _ rfl)]
  clear hd hB
  go_simp
  exact hK _ (Below.refl _ _)
 refine DetR.is (o := { dst := some 92, op := Op.fieldAddr 78 (Operand.tmp 91) 0, type := 0, pos := "law.go:138", after := #[{ on := 2, ground := Ground.data }], guard := none }) (u := .pointer (some (ad.add (i * 5)))) rfl (by decide) (fun T w' hb hd hB K hK => ?sx4) ?rx4
 case sx4 =>
  have e91 := hd 2 91 _ (by decide) (by kernel_rfl) rfl rfl
  replace e91 : T.getD 91 undef = _ := e91
  rw [if_pos (yac_ _ rfl)]
  clear hd hB
  go_simp
  exact hK _ (Below.refl _ _)
 refine DetR.is (o := { dst := some 93, op := Op.load 4 (Operand.tmp 92), type := 4, pos := "law.go:138", after := #[{ on := 3, ground := Ground.data }], guard := none }) (u := .bool x.f0) rfl (by decide) (fun T w' hb hd hB K hK => ?sx5) ?rx5
 case sx5 =>
  have e92 := hd 3 92 _ (by decide) (by kernel_rfl) rfl rfl
  replace e92 : T.getD 92 undef = _ := e92
  rw [if_pos (yac_ _ rfl)]
  have r0 := yad_ hb hx0
  clear hd hB
  go_simp
  exact hK _ (Below.refl _ _)
 refine DetR.is (o := { dst := some 94, op := Op.move (Operand.tmp 5), type := 68, pos := "law.go:138", after := #[], guard := none }) (u := ?ux6) rfl (by decide) (fun T w' hb hd hB K hK => ?sx6) ?rx6
 case sx6 =>
  have e5 := (hB 5 (by kernel_rfl)).trans hT5
  rw [if_pos (yac_ _ rfl)]
  clear hd hB
  go_simp
  exact hK _ (Below.refl _ _)
 refine DetR.is (o := { dst := some 95, op := Op.move (Operand.tmp 13), type := 3, pos := "law.go:138", after := #[], guard := none }) (u := ?ux7) rfl (by decide) (fun T w' hb hd hB K hK => ?sx7) ?rx7
 case sx7 =>
  have e13 := (hB 13 (by kernel_rfl)).trans hT13
  rw [if_pos (yac_ _ rfl)]
  clear hd hB
  go_simp
  exact hK _ (Below.refl _ _)
 refine DetR.is (o := { dst := some 96, op := Op.indexAddr 68 (Operand.tmp 94) (Operand.tmp 95), type := 0, pos := "law.go:138", after := #[{ on := 5, ground := Ground.data }, { on := 6, ground := Ground.data }], guard := none }) (u := .pointer (some (ad.add (k * 5)))) rfl (by decide) (fun T w' hb hd hB K hK => ?sx8) ?rx8
 case sx8 =>
  have e94 := hd 5 94 _ (by decide) (by kernel_rfl) rfl rfl
  replace e94 : T.getD 94 undef = _ := e94
  have e95 := hd 6 95 _ (by decide) (by kernel_rfl) rfl rfl
  replace e95 : T.getD 95 undef = _ := e95
  rw [if_pos (yac_ _ rfl)]
  clear hd hB
  go_simp
  exact hK _ (Below.refl _ _)
 refine DetR.is (o := { dst := some 97, op := Op.fieldAddr 78 (Operand.tmp 96) 0, type := 0, pos := "law.go:138", after := #[{ on := 7, ground := Ground.data }], guard := none }) (u := .pointer (some (ad.add (k * 5)))) rfl (by decide) (fun T w' hb hd hB K hK => ?sx9) ?rx9
 case sx9 =>
  have e96 := hd 7 96 _ (by decide) (by kernel_rfl) rfl rfl
  replace e96 : T.getD 96 undef = _ := e96
  rw [if_pos (yac_ _ rfl)]
  clear hd hB
  go_simp
  exact hK _ (Below.refl _ _)
 refine DetR.is (o := { dst := some 98, op := Op.load 4 (Operand.tmp 97), type := 4, pos := "law.go:138", after := #[{ on := 8, ground := Ground.data }], guard := none }) (u := .bool y.f0) rfl (by decide) (fun T w' hb hd hB K hK => ?sx10) ?rx10
 case sx10 =>
  have e97 := hd 8 97 _ (by decide) (by kernel_rfl) rfl rfl
  replace e97 : T.getD 97 undef = _ := e97
  rw [if_pos (yac_ _ rfl)]
  have r0 := yad_ hb hy0
  clear hd hB
  go_simp
  exact hK _ (Below.refl _ _)
 refine DetR.is (o := { dst := some 99, op := Op.binOp BinOp.eql 4 (Operand.tmp 93) (Operand.tmp 98) 4, type := 4, pos := "law.go:138", after := #[{ on := 4, ground := Ground.data }, { on := 9, ground := Ground.data }], guard := none }) (u := .bool true) rfl (by decide) (fun T w' hb hd hB K hK => ?sx11) ?rx11
 case sx11 =>
  have e93 := hd 4 93 _ (by decide) (by kernel_rfl) rfl rfl
  replace e93 : T.getD 93 undef = _ := e93
  have e98 := hd 9 98 _ (by decide) (by kernel_rfl) rfl rfl
  replace e98 : T.getD 98 undef = _ := e98
  rw [if_pos (yac_ _ rfl)]
  clear hd hB
  go_simp
  exact hK _ (Below.refl _ _)
 refine DetR.is (o := { dst := some 100, op := Op.move (Operand.tmp 99), type := 4, pos := "law.go:138", after := #[{ on := 10, ground := Ground.data }], guard := none }) (u := .bool true) rfl (by decide) (fun T w' hb hd hB K hK => ?sx12) ?rx12
 case sx12 =>
  have e99 := hd 10 99 _ (by decide) (by kernel_rfl) rfl rfl
  replace e99 : T.getD 99 undef = _ := e99
  rw [if_pos (yac_ _ rfl)]
  clear hd hB
  go_simp
  exact hK _ (Below.refl _ _)
 refine DetR.is (o := { dst := some 101, op := Op.move (Operand.tmp 5), type := 68, pos := "law.go:138", after := #[{ on := 11, ground := Ground.guard }], guard := some (11, true) }) (u := ?ux13) rfl (by decide) (fun T w' hb hd hB K hK => ?sx13) ?rx13
 case sx13 =>
  have e5 := (hB 5 (by kernel_rfl)).trans hT5
  have eg := hd 11 100 _ (by decide) (by kernel_rfl) rfl rfl
  replace eg : T.getD 100 undef = .bool true := eg
  rw [if_pos (yai_ 11 100 true rfl rfl eg)]
  clear eg
  clear hd hB
  go_simp
  exact hK _ (Below.refl _ _)
 refine DetR.is (o := { dst := some 102, op := Op.move (Operand.tmp 12), type := 3, pos := "law.go:138", after := #[{ on := 11, ground := Ground.guard }], guard := some (11, true) }) (u := ?ux14) rfl (by decide) (fun T w' hb hd hB K hK => ?sx14) ?rx14
 case sx14 =>
  have e12 := (hB 12 (by kernel_rfl)).trans hT12
  have eg := hd 11 100 _ (by decide) (by kernel_rfl) rfl rfl
  replace eg : T.getD 100 undef = .bool true := eg
  rw [if_pos (yai_ 11 100 true rfl rfl eg)]
  clear eg
  clear hd hB
  go_simp
  exact hK _ (Below.refl _ _)
 refine DetR.is (o := { dst := some 103, op := Op.indexAddr 68 (Operand.tmp 101) (Operand.tmp 102), type := 0, pos := "law.go:138", after := #[{ on := 12, ground := Ground.data }, { on := 13, ground := Ground.data }, { on := 11, ground := Ground.guard }], guard := some (11, true) }) (u := .pointer (some (ad.add (i * 5)))) rfl (by decide) (fun T w' hb hd hB K hK => ?sx15) ?rx15
 case sx15 =>
  have e101 := hd 12 101 _ (by decide) (by kernel_rfl) rfl rfl
  replace e101 : T.getD 101 undef = _ := e101
  have e102 := hd 13 102 _ (by decide) (by kernel_rfl) rfl rfl
  replace e102 : T.getD 102 undef = _ := e102
  have eg := hd 11 100 _ (by decide) (by kernel_rfl) rfl rfl
  replace eg : T.getD 100 undef = .bool true := eg
  rw [if_pos (yai_ 11 100 true rfl rfl eg)]
  clear eg
  clear hd hB
  go_simp
  exact hK _ (Below.refl _ _)
 refine DetR.is (o := { dst := some 104, op := Op.load 78 (Operand.tmp 103), type := 78, pos := "law.go:138", after := #[{ on := 14, ground := Ground.data }, { on := 11, ground := Ground.guard }], guard := some (11, true) }) (u := .agg #[.bool x.f0, .int .i64 x.f1.f0, .slice xA x.f1.f1.length xc, .int .i64 x.f2.f0, .slice xB x.f2.f1.length xd]) rfl (by decide) (fun T w' hb hd hB K hK => ?sx16) ?rx16
 case sx16 =>
  have e103 := hd 14 103 _ (by decide) (by kernel_rfl) rfl rfl
  replace e103 : T.getD 103 undef = _ := e103
  have eg := hd 11 100 _ (by decide) (by kernel_rfl) rfl rfl
  replace eg : T.getD 100 undef = .bool true := eg
  rw [if_pos (yai_ 11 100 true rfl rfl eg)]
  clear eg
  have r0 := yad_ hb hx0
  have r1 := yad_ hb hx1
  have r2 := yad_ hb hx2
  have r3 := yad_ hb hx3
  have r4 := yad_ hb hx4
  clear hd hB
  go_simp
  exact hK _ (Below.refl _ _)
 refine DetR.is (o := { dst := some 105, op := Op.move (Operand.tmp 5), type := 68, pos := "law.go:138", after := #[{ on := 11, ground := Ground.guard }], guard := some (11, true) }) (u := ?ux17) rfl (by decide) (fun T w' hb hd hB K hK => ?sx17) ?rx17
 case sx17 =>
  have e5 := (hB 5 (by kernel_rfl)).trans hT5
  have eg := hd 11 100 _ (by decide) (by kernel_rfl) rfl rfl
  replace eg : T.getD 100 undef = .bool true := eg
  rw [if_pos (yai_ 11 100 true rfl rfl eg)]
  clear eg
  clear hd hB
  go_simp
  exact hK _ (Below.refl _ _)
 refine DetR.is (o := { dst := some 106, op := Op.move (Operand.tmp 13), type := 3, pos := "law.go:138", after := #[{ on := 11, ground := Ground.guard }], guard := some (11, true) }) (u := ?ux18) rfl (by decide) (fun T w' hb hd hB K hK => ?sx18) ?rx18
 case sx18 =>
  have e13 := (hB 13 (by kernel_rfl)).trans hT13
  have eg := hd 11 100 _ (by decide) (by kernel_rfl) rfl rfl
  replace eg : T.getD 100 undef = .bool true := eg
  rw [if_pos (yai_ 11 100 true rfl rfl eg)]
  clear eg
  clear hd hB
  go_simp
  exact hK _ (Below.refl _ _)
 refine DetR.is (o := { dst := some 107, op := Op.indexAddr 68 (Operand.tmp 105) (Operand.tmp 106), type := 0, pos := "law.go:138", after := #[{ on := 16, ground := Ground.data }, { on := 17, ground := Ground.data }, { on := 11, ground := Ground.guard }], guard := some (11, true) }) (u := .pointer (some (ad.add (k * 5)))) rfl (by decide) (fun T w' hb hd hB K hK => ?sx19) ?rx19
 case sx19 =>
  have e105 := hd 16 105 _ (by decide) (by kernel_rfl) rfl rfl
  replace e105 : T.getD 105 undef = _ := e105
  have e106 := hd 17 106 _ (by decide) (by kernel_rfl) rfl rfl
  replace e106 : T.getD 106 undef = _ := e106
  have eg := hd 11 100 _ (by decide) (by kernel_rfl) rfl rfl
  replace eg : T.getD 100 undef = .bool true := eg
  rw [if_pos (yai_ 11 100 true rfl rfl eg)]
  clear eg
  clear hd hB
  go_simp
  exact hK _ (Below.refl _ _)
 refine DetR.is (o := { dst := some 108, op := Op.load 78 (Operand.tmp 107), type := 78, pos := "law.go:138", after := #[{ on := 18, ground := Ground.data }, { on := 11, ground := Ground.guard }], guard := some (11, true) }) (u := .agg #[.bool y.f0, .int .i64 y.f1.f0, .slice yA y.f1.f1.length yc, .int .i64 y.f2.f0, .slice yB y.f2.f1.length yd]) rfl (by decide) (fun T w' hb hd hB K hK => ?sx20) ?rx20
 case sx20 =>
  have e107 := hd 18 107 _ (by decide) (by kernel_rfl) rfl rfl
  replace e107 : T.getD 107 undef = _ := e107
  have eg := hd 11 100 _ (by decide) (by kernel_rfl) rfl rfl
  replace eg : T.getD 100 undef = .bool true := eg
  rw [if_pos (yai_ 11 100 true rfl rfl eg)]
  clear eg
  have r0 := yad_ hb hy0
  have r1 := yad_ hb hy1
  have r2 := yad_ hb hy2
  have r3 := yad_ hb hy3
  have r4 := yad_ hb hy4
  clear hd hB
  go_simp
  exact hK _ (Below.refl _ _)
 refine DetR.is (o := { dst := some 109, op := Op.call { callee := Callee.value (Operand.func 66), args := #[Operand.tmp 104, Operand.tmp 108], argTypes := #[78, 78] }, type := 4, pos := "law.go:138", after := #[{ on := 15, ground := Ground.data }, { on := 19, ground := Ground.data }, { on := 11, ground := Ground.chain }, { on := 11, ground := Ground.guard }], guard := some (11, true) }) (u := .bool gr) rfl (by decide) (fun T w' hb hd hB K hK => ?sx21) ?rx21
 case sx21 =>
  have e104 := hd 15 104 _ (by decide) (by kernel_rfl) rfl rfl
  replace e104 : T.getD 104 undef = _ := e104
  have e108 := hd 19 108 _ (by decide) (by kernel_rfl) rfl rfl
  replace e108 : T.getD 108 undef = _ := e108
  have eg := hd 11 100 _ (by decide) (by kernel_rfl) rfl rfl
  replace eg : T.getD 100 undef = .bool true := eg
  rw [if_pos (yai_ 11 100 true rfl rfl eg)]
  clear eg
  have hcl := hF20 w' hb
  clear hd hB
  go_simp
  go_at_call 66
  refine hcl.mono ?_
  rintro e w2 ⟨rfl, h2⟩
  exact hK _ h2
 refine DetR.is (o := { dst := some 110, op := Op.move (Operand.tmp 5), type := 68, pos := "law.go:138", after := #[{ on := 11, ground := Ground.guard }], guard := some (11, true) }) (u := ?ux22) rfl (by decide) (fun T w' hb hd hB K hK => ?sx22) ?rx22
 case sx22 =>
  have e5 := (hB 5 (by kernel_rfl)).trans hT5
  have eg := hd 11 100 _ (by decide) (by kernel_rfl) rfl rfl
  replace eg : T.getD 100 undef = .bool true := eg
  rw [if_pos (yai_ 11 100 true rfl rfl eg)]
  clear eg
  clear hd hB
  go_simp
  exact hK _ (Below.refl _ _)
 refine DetR.is (o := { dst := some 111, op := Op.move (Operand.tmp 12), type := 3, pos := "law.go:138", after := #[{ on := 11, ground := Ground.guard }], guard := some (11, true) }) (u := ?ux23) rfl (by decide) (fun T w' hb hd hB K hK => ?sx23) ?rx23
 case sx23 =>
  have e12 := (hB 12 (by kernel_rfl)).trans hT12
  have eg := hd 11 100 _ (by decide) (by kernel_rfl) rfl rfl
  replace eg : T.getD 100 undef = .bool true := eg
  rw [if_pos (yai_ 11 100 true rfl rfl eg)]
  clear eg
  clear hd hB
  go_simp
  exact hK _ (Below.refl _ _)
 refine DetR.is (o := { dst := some 112, op := Op.indexAddr 68 (Operand.tmp 110) (Operand.tmp 111), type := 0, pos := "law.go:138", after := #[{ on := 21, ground := Ground.data }, { on := 22, ground := Ground.data }, { on := 11, ground := Ground.guard }], guard := some (11, true) }) (u := .pointer (some (ad.add (i * 5)))) rfl (by decide) (fun T w' hb hd hB K hK => ?sx24) ?rx24
 case sx24 =>
  have e110 := hd 21 110 _ (by decide) (by kernel_rfl) rfl rfl
  replace e110 : T.getD 110 undef = _ := e110
  have e111 := hd 22 111 _ (by decide) (by kernel_rfl) rfl rfl
  replace e111 : T.getD 111 undef = _ := e111
  have eg := hd 11 100 _ (by decide) (by kernel_rfl) rfl rfl
  replace eg : T.getD 100 undef = .bool true := eg
  rw [if_pos (yai_ 11 100 true rfl rfl eg)]
  clear eg
  clear hd hB
  go_simp
  exact hK _ (Below.refl _ _)
 refine DetR.is (o := { dst := some 113, op := Op.fieldAddr 78 (Operand.tmp 112) 1, type := 0, pos := "law.go:138", after := #[{ on := 23, ground := Ground.data }, { on := 11, ground := Ground.guard }], guard := some (11, true) }) (u := .pointer (some ⟨(ad.add (i * 5)).block, (ad.add (i * 5)).off + 1, none⟩)) rfl (by decide) (fun T w' hb hd hB K hK => ?sx25) ?rx25
 case sx25 =>
  have e112 := hd 23 112 _ (by decide) (by kernel_rfl) rfl rfl
  replace e112 : T.getD 112 undef = _ := e112
  have eg := hd 11 100 _ (by decide) (by kernel_rfl) rfl rfl
  replace eg : T.getD 100 undef = .bool true := eg
  rw [if_pos (yai_ 11 100 true rfl rfl eg)]
  clear eg
  clear hd hB
  go_simp
  exact hK _ (Below.refl _ _)
 refine DetR.is (o := { dst := some 114, op := Op.load 30 (Operand.tmp 113), type := 30, pos := "law.go:138", after := #[{ on := 24, ground := Ground.data }, { on := 11, ground := Ground.guard }], guard := some (11, true) }) (u := .agg #[.int .i64 x.f1.f0, .slice xA x.f1.f1.length xc]) rfl (by decide) (fun T w' hb hd hB K hK => ?sx26) ?rx26
 case sx26 =>
  have e113 := hd 24 113 _ (by decide) (by kernel_rfl) rfl rfl
  replace e113 : T.getD 113 undef = _ := e113
  have eg := hd 11 100 _ (by decide) (by kernel_rfl) rfl rfl
  replace eg : T.getD 100 undef = .bool true := eg
  rw [if_pos (yai_ 11 100 true rfl rfl eg)]
  clear eg
  have r1 := yad_ hb hx1
  have r2 := yad_ hb hx2
  clear hd hB
  go_simp
  exact hK _ (Below.refl _ _)
 refine DetR.is (o := { dst := some 115, op := Op.move (Operand.tmp 5), type := 68, pos := "law.go:138", after := #[{ on := 11, ground := Ground.guard }], guard := some (11, true) }) (u := ?ux27) rfl (by decide) (fun T w' hb hd hB K hK => ?sx27) ?rx27
 case sx27 =>
  have e5 := (hB 5 (by kernel_rfl)).trans hT5
  have eg := hd 11 100 _ (by decide) (by kernel_rfl) rfl rfl
  replace eg : T.getD 100 undef = .bool true := eg
  rw [if_pos (yai_ 11 100 true rfl rfl eg)]
  clear eg
  clear hd hB
  go_simp
  exact hK _ (Below.refl _ _)
 refine DetR.is (o := { dst := some 116, op := Op.move (Operand.tmp 13), type := 3, pos := "law.go:138", after := #[{ on := 11, ground := Ground.guard }], guard := some (11, true) }) (u := ?ux28) rfl (by decide) (fun T w' hb hd hB K hK => ?sx28) ?rx28
 case sx28 =>
  have e13 := (hB 13 (by kernel_rfl)).trans hT13
  have eg := hd 11 100 _ (by decide) (by kernel_rfl) rfl rfl
  replace eg : T.getD 100 undef = .bool true := eg
  rw [if_pos (yai_ 11 100 true rfl rfl eg)]
  clear eg
  clear hd hB
  go_simp
  exact hK _ (Below.refl _ _)
 refine DetR.is (o := { dst := some 117, op := Op.indexAddr 68 (Operand.tmp 115) (Operand.tmp 116), type := 0, pos := "law.go:138", after := #[{ on := 26, ground := Ground.data }, { on := 27, ground := Ground.data }, { on := 11, ground := Ground.guard }], guard := some (11, true) }) (u := .pointer (some (ad.add (k * 5)))) rfl (by decide) (fun T w' hb hd hB K hK => ?sx29) ?rx29
 case sx29 =>
  have e115 := hd 26 115 _ (by decide) (by kernel_rfl) rfl rfl
  replace e115 : T.getD 115 undef = _ := e115
  have e116 := hd 27 116 _ (by decide) (by kernel_rfl) rfl rfl
  replace e116 : T.getD 116 undef = _ := e116
  have eg := hd 11 100 _ (by decide) (by kernel_rfl) rfl rfl
  replace eg : T.getD 100 undef = .bool true := eg
  rw [if_pos (yai_ 11 100 true rfl rfl eg)]
  clear eg
  clear hd hB
  go_simp
  exact hK _ (Below.refl _ _)
 refine DetR.is (o := { dst := some 118, op := Op.fieldAddr 78 (Operand.tmp 117) 1, type := 0, pos := "law.go:138", after := #[{ on := 28, ground := Ground.data }, { on := 11, ground := Ground.guard }], guard := some (11, true) }) (u := .pointer (some ⟨(ad.add (k * 5)).block, (ad.add (k * 5)).off + 1, none⟩)) rfl (by decide) (fun T w' hb hd hB K hK => ?sx30) ?rx30
 case sx30 =>
  have e117 := hd 28 117 _ (by decide) (by kernel_rfl) rfl rfl
  replace e117 : T.getD 117 undef = _ := e117
  have eg := hd 11 100 _ (by decide) (by kernel_rfl) rfl rfl
  replace eg : T.getD 100 undef = .bool true := eg
  rw [if_pos (yai_ 11 100 true rfl rfl eg)]
  clear eg
  clear hd hB
  go_simp
  exact hK _ (Below.refl _ _)
 refine DetR.is (o := { dst := some 119, op := Op.load 30 (Operand.tmp 118), type := 30, pos := "law.go:138", after := #[{ on := 29, ground := Ground.data }, { on := 11, ground := Ground.guard }], guard := some (11, true) }) (u := .agg #[.int .i64 y.f1.f0, .slice yA y.f1.f1.length yc]) rfl (by decide) (fun T w' hb hd hB K hK => ?sx31) ?rx31
 case sx31 =>
  have e118 := hd 29 118 _ (by decide) (by kernel_rfl) rfl rfl
  replace e118 : T.getD 118 undef = _ := e118
  have eg := hd 11 100 _ (by decide) (by kernel_rfl) rfl rfl
  replace eg : T.getD 100 undef = .bool true := eg
  rw [if_pos (yai_ 11 100 true rfl rfl eg)]
  clear eg
  have r1 := yad_ hb hy1
  have r2 := yad_ hb hy2
  clear hd hB
  go_simp
  exact hK _ (Below.refl _ _)
 refine DetR.is (o := { dst := some 120, op := Op.call { callee := Callee.value (Operand.func 41), args := #[Operand.tmp 114, Operand.tmp 119], argTypes := #[30, 30] }, type := 4, pos := "law.go:138", after := #[{ on := 25, ground := Ground.data }, { on := 30, ground := Ground.data }, { on := 20, ground := Ground.chain }, { on := 11, ground := Ground.guard }], guard := some (11, true) }) (u := .bool gr) rfl (by decide) (fun T w' hb hd hB K hK => ?sx32) ?rx32
 case sx32 =>
  have e114 := hd 25 114 _ (by decide) (by kernel_rfl) rfl rfl
  replace e114 : T.getD 114 undef = _ := e114
  have e119 := hd 30 119 _ (by decide) (by kernel_rfl) rfl rfl
  replace e119 : T.getD 119 undef = _ := e119
  have eg := hd 11 100 _ (by decide) (by kernel_rfl) rfl rfl
  replace eg : T.getD 100 undef = .bool true := eg
  rw [if_pos (yai_ 11 100 true rfl rfl eg)]
  clear eg
  have hcl := hF31 w' hb
  clear hd hB
  go_simp
  go_at_call 41
  refine hcl.mono ?_
  rintro e w2 ⟨rfl, h2⟩
  exact hK _ h2
 refine DetR.is (o := { dst := some 121, op := Op.binOp BinOp.neq 4 (Operand.tmp 109) (Operand.tmp 120) 4, type := 4, pos := "law.go:138", after := #[{ on := 20, ground := Ground.data }, { on := 31, ground := Ground.data }, { on := 11, ground := Ground.guard }], guard := some (11, true) }) (u := .bool false) rfl (by decide) (fun T w' hb hd hB K hK => ?sx33) ?rx33
 case sx33 =>
  have e109 := hd 20 109 _ (by decide) (by kernel_rfl) rfl rfl
  replace e109 : T.getD 109 undef = _ := e109
  have e120 := hd 31 120 _ (by decide) (by kernel_rfl) rfl rfl
  replace e120 : T.getD 120 undef = _ := e120
  have eg := hd 11 100 _ (by decide) (by kernel_rfl) rfl rfl
  replace eg : T.getD 100 undef = .bool true := eg
  rw [if_pos (yai_ 11 100 true rfl rfl eg)]
  clear eg
  clear hd hB
  go_simp
  try simp only [bne_self_eq_false]
  exact hK _ (Below.refl _ _)
 refine DetR.is (o := { dst := some 122, op := Op.pick (Operand.tmp 100) (Operand.tmp 121) (Operand.const (Value.bool false)), type := 4, pos := "law.go:138", after := #[{ on := 11, ground := Ground.data }, { on := 32, ground := Ground.data }], guard := none }) (u := .bool false) rfl (by decide) (fun T w' hb hd hB K hK => ?sx34) ?rx34
 case sx34 =>
  have e100 := hd 11 100 _ (by decide) (by kernel_rfl) rfl rfl
  replace e100 : T.getD 100 undef = _ := e100
  have e121 := hd 32 121 _ (by decide) (by kernel_rfl) rfl rfl
  replace e121 : T.getD 121 undef = _ := e121
  rw [if_pos (yac_ _ rfl)]
  clear hd hB
  go_simp
  exact hK _ (Below.refl _ _)
 refine DetR.done [some 89, some 90, some 91, some 92, some 93, some 94, some 95, some 96, some 97, some 98, some 99, some 100, some 101, some 102, some 103, some 104, some 105, some 106, some 107, some 108, some 109, some 110, some 111, some 112, some 113, some 114, some 115, some 116, some 117, some 118, some 119, some 120, some 121, some 122] (by kernel_rfl) rfl (by kernel_rfl) ?_
 intro v w' hb hv
 exact hK v w' hb (hv 33 _ (by decide) rfl)
set_option maxHeartbeats 4000000 in
set_option maxRecDepth 100000 in
theorem OrderAtoms_r27f {id : Nat} {a : Act} {w : World} {Q : Exit → Act → World → Prop} {ad : Addr} {ln cc i k : Nat} {gr : Bool} {x : S78} {xA xB : Option Addr} {xc xd : Nat} {y : S78} {yA yB : Option Addr} {yc yd : Nat}
  (hr : regionOk #[{ dst := some 89, op := Op.move (Operand.tmp 5), type := 68, pos := "law.go:138", after := #[], guard := none }, { dst := some 90, op := Op.move (Operand.tmp 12), type := 3, pos := "law.go:138", after := #[], guard := none }, { dst := some 91, op := Op.indexAddr 68 (Operand.tmp 89) (Operand.tmp 90), type := 0, pos := "law.go:138", after := #[{ on := 0, ground := Ground.data }, { on := 1, ground := Ground.data }], guard := none }, { dst := some 92, op := Op.fieldAddr 78 (Operand.tmp 91) 0, type := 0, pos := "law.go:138", after := #[{ on := 2, ground := Ground.data }], guard := none }, { dst := some 93, op := Op.load 4 (Operand.tmp 92), type := 4, pos := "law.go:138", after := #[{ on := 3, ground := Ground.data }], guard := none }, { dst := some 94, op := Op.move (Operand.tmp 5), type := 68, pos := "law.go:138", after := #[], guard := none }, { dst := some 95, op := Op.move (Operand.tmp 13), type := 3, pos := "law.go:138", after := #[], guard := none }, { dst := some 96, op := Op.indexAddr 68 (Operand.tmp 94) (Operand.tmp 95), type := 0, pos := "law.go:138", after := #[{ on := 5, ground := Ground.data }, { on := 6, ground := Ground.data }], guard := none }, { dst := some 97, op := Op.fieldAddr 78 (Operand.tmp 96) 0, type := 0, pos := "law.go:138", after := #[{ on := 7, ground := Ground.data }], guard := none }, { dst := some 98, op := Op.load 4 (Operand.tmp 97), type := 4, pos := "law.go:138", after := #[{ on := 8, ground := Ground.data }], guard := none }, { dst := some 99, op := Op.binOp BinOp.eql 4 (Operand.tmp 93) (Operand.tmp 98) 4, type := 4, pos := "law.go:138", after := #[{ on := 4, ground := Ground.data }, { on := 9, ground := Ground.data }], guard := none }, { dst := some 100, op := Op.move (Operand.tmp 99), type := 4, pos := "law.go:138", after := #[{ on := 10, ground := Ground.data }], guard := none }, { dst := some 101, op := Op.move (Operand.tmp 5), type := 68, pos := "law.go:138", after := #[{ on := 11, ground := Ground.guard }], guard := some (11, true) }, { dst := some 102, op := Op.move (Operand.tmp 12), type := 3, pos := "law.go:138", after := #[{ on := 11, ground := Ground.guard }], guard := some (11, true) }, { dst := some 103, op := Op.indexAddr 68 (Operand.tmp 101) (Operand.tmp 102), type := 0, pos := "law.go:138", after := #[{ on := 12, ground := Ground.data }, { on := 13, ground := Ground.data }, { on := 11, ground := Ground.guard }], guard := some (11, true) }, { dst := some 104, op := Op.load 78 (Operand.tmp 103), type := 78, pos := "law.go:138", after := #[{ on := 14, ground := Ground.data }, { on := 11, ground := Ground.guard }], guard := some (11, true) }, { dst := some 105, op := Op.move (Operand.tmp 5), type := 68, pos := "law.go:138", after := #[{ on := 11, ground := Ground.guard }], guard := some (11, true) }, { dst := some 106, op := Op.move (Operand.tmp 13), type := 3, pos := "law.go:138", after := #[{ on := 11, ground := Ground.guard }], guard := some (11, true) }, { dst := some 107, op := Op.indexAddr 68 (Operand.tmp 105) (Operand.tmp 106), type := 0, pos := "law.go:138", after := #[{ on := 16, ground := Ground.data }, { on := 17, ground := Ground.data }, { on := 11, ground := Ground.guard }], guard := some (11, true) }, { dst := some 108, op := Op.load 78 (Operand.tmp 107), type := 78, pos := "law.go:138", after := #[{ on := 18, ground := Ground.data }, { on := 11, ground := Ground.guard }], guard := some (11, true) }, { dst := some 109, op := Op.call { callee := Callee.value (Operand.func 66), args := #[Operand.tmp 104, Operand.tmp 108], argTypes := #[78, 78] }, type := 4, pos := "law.go:138", after := #[{ on := 15, ground := Ground.data }, { on := 19, ground := Ground.data }, { on := 11, ground := Ground.chain }, { on := 11, ground := Ground.guard }], guard := some (11, true) }, { dst := some 110, op := Op.move (Operand.tmp 5), type := 68, pos := "law.go:138", after := #[{ on := 11, ground := Ground.guard }], guard := some (11, true) }, { dst := some 111, op := Op.move (Operand.tmp 12), type := 3, pos := "law.go:138", after := #[{ on := 11, ground := Ground.guard }], guard := some (11, true) }, { dst := some 112, op := Op.indexAddr 68 (Operand.tmp 110) (Operand.tmp 111), type := 0, pos := "law.go:138", after := #[{ on := 21, ground := Ground.data }, { on := 22, ground := Ground.data }, { on := 11, ground := Ground.guard }], guard := some (11, true) }, { dst := some 113, op := Op.fieldAddr 78 (Operand.tmp 112) 1, type := 0, pos := "law.go:138", after := #[{ on := 23, ground := Ground.data }, { on := 11, ground := Ground.guard }], guard := some (11, true) }, { dst := some 114, op := Op.load 30 (Operand.tmp 113), type := 30, pos := "law.go:138", after := #[{ on := 24, ground := Ground.data }, { on := 11, ground := Ground.guard }], guard := some (11, true) }, { dst := some 115, op := Op.move (Operand.tmp 5), type := 68, pos := "law.go:138", after := #[{ on := 11, ground := Ground.guard }], guard := some (11, true) }, { dst := some 116, op := Op.move (Operand.tmp 13), type := 3, pos := "law.go:138", after := #[{ on := 11, ground := Ground.guard }], guard := some (11, true) }, { dst := some 117, op := Op.indexAddr 68 (Operand.tmp 115) (Operand.tmp 116), type := 0, pos := "law.go:138", after := #[{ on := 26, ground := Ground.data }, { on := 27, ground := Ground.data }, { on := 11, ground := Ground.guard }], guard := some (11, true) }, { dst := some 118, op := Op.fieldAddr 78 (Operand.tmp 117) 1, type := 0, pos := "law.go:138", after := #[{ on := 28, ground := Ground.data }, { on := 11, ground := Ground.guard }], guard := some (11, true) }, { dst := some 119, op := Op.load 30 (Operand.tmp 118), type := 30, pos := "law.go:138", after := #[{ on := 29, ground := Ground.data }, { on := 11, ground := Ground.guard }], guard := some (11, true) }, { dst := some 120, op := Op.call { callee := Callee.value (Operand.func 41), args := #[Operand.tmp 114, Operand.tmp 119], argTypes := #[30, 30] }, type := 4, pos := "law.go:138", after := #[{ on := 25, ground := Ground.data }, { on := 30, ground := Ground.data }, { on := 20, ground := Ground.chain }, { on := 11, ground := Ground.guard }], guard := some (11, true) }, { dst := some 121, op := Op.binOp BinOp.neq 4 (Operand.tmp 109) (Operand.tmp 120) 4, type := 4, pos := "law.go:138", after := #[{ on := 20, ground := Ground.data }, { on := 31, ground := Ground.data }, { on := 11, ground := Ground.guard }], guard := some (11, true) }, { dst := some 122, op := Op.pick (Operand.tmp 100) (Operand.tmp 121) (Operand.const (Value.bool false)), type := 4, pos := "law.go:138", after := #[{ on := 11, ground := Ground.data }, { on := 32, ground := Ground.data }], guard := none }] a.tmps.size = true)
  (hT5 : a.tmps.getD 5 undef = .slice (some ad) ln cc)
  (hT12 : a.tmps.getD 12 undef = .int .i64 (i : Int))
  (hT13 : a.tmps.getD 13 undef = .int .i64 (k : Int))
  (hi : i < ln) (hk : k < ln) (hlc : ln ≤ cc) (hq1 : (x.f0 == y.f0) = false) (hq2 : decide (x.f0 = y.f0) = false)
  (hx0 : w.cell? (ad.add (i * 5)) = some (.bool x.f0))
  (hx1 : w.cell? ⟨(ad.add (i * 5)).block, (ad.add (i * 5)).off + 1, none⟩ = some (.int .i64 x.f1.f0))
  (hx2 : w.cell? ⟨(ad.add (i * 5)).block, (ad.add (i * 5)).off + 2, none⟩ = some (.slice xA x.f1.f1.length xc))
  (hx3 : w.cell? ⟨(ad.add (i * 5)).block, (ad.add (i * 5)).off + 3, none⟩ = some (.int .i64 x.f2.f0))
  (hx4 : w.cell? ⟨(ad.add (i * 5)).block, (ad.add (i * 5)).off + 4, none⟩ = some (.slice xB x.f2.f1.length xd))
  (hy0 : w.cell? (ad.add (k * 5)) = some (.bool y.f0))
  (hy1 : w.cell? ⟨(ad.add (k * 5)).block, (ad.add (k * 5)).off + 1, none⟩ = some (.int .i64 y.f1.f0))
  (hy2 : w.cell? ⟨(ad.add (k * 5)).block, (ad.add (k * 5)).off + 2, none⟩ = some (.slice yA y.f1.f1.length yc))
  (hy3 : w.cell? ⟨(ad.add (k * 5)).block, (ad.add (k * 5)).off + 3, none⟩ = some (.int .i64 y.f2.f0))
  (hy4 : w.cell? ⟨(ad.add (k * 5)).block, (ad.add (k * 5)).off + 4, none⟩ = some (.slice yB y.f2.f1.length yd))
  (hK : ∀ v w', Below w.heap.size w w' → v 33 = .bool false → Q .normal { tmps := layL [some 89, some 90, some 91, some 92, some 93, some 94, some 95, some 96, some 97, some 98, some 99, some 100, some 101, some 102, some 103, some 104, some 105, some 106, some 107, some 108, some 109, some 110, some 111, some 112, some 113, some 114, some 115, some 116, some 117, some 118, some 119, some 120, some 121, some 122] 0 v a.tmps, defers := a.defers } w') :
  (Code.region id #[{ dst := some 89, op := Op.move (Operand.tmp 5), type := 68, pos := "law.go:138", after := #[], guard := none }, { dst := some 90, op := Op.move (Operand.tmp 12), type := 3, pos := "law.go:138", after := #[], guard := none }, { dst := some 91, op := Op.indexAddr 68 (Operand.tmp 89) (Operand.tmp 90), type := 0, pos := "law.go:138", after := #[{ on := 0, ground := Ground.data }, { on := 1, ground := Ground.data }], guard := none }, { dst := some 92, op := Op.fieldAddr 78 (Operand.tmp 91) 0, type := 0, pos := "law.go:138", after := #[{ on := 2, ground := Ground.data }], guard := none }, { dst := some 93, op := Op.load 4 (Operand.tmp 92), type := 4, pos := "law.go:138", after := #[{ on := 3, ground := Ground.data }], guard := none }, { dst := some 94, op := Op.move (Operand.tmp 5), type := 68, pos := "law.go:138", after := #[], guard := none }, { dst := some 95, op := Op.move (Operand.tmp 13), type := 3, pos := "law.go:138", after := #[], guard := none }, { dst := some 96, op := Op.indexAddr 68 (Operand.tmp 94) (Operand.tmp 95), type := 0, pos := "law.go:138", after := #[{ on := 5, ground := Ground.data }, { on := 6, ground := Ground.data }], guard := none }, { dst := some 97, op := Op.fieldAddr 78 (Operand.tmp 96) 0, type := 0, pos := "law.go:138", after := #[{ on := 7, ground := Ground.data }], guard := none }, { dst := some 98, op := Op.load 4 (Operand.tmp 97), type := 4, pos := "law.go:138", after := #[{ on := 8, ground := Ground.data }], guard := none }, { dst := some 99, op := Op.binOp BinOp.eql 4 (Operand.tmp 93) (Operand.tmp 98) 4, type := 4, pos := "law.go:138", after := #[{ on := 4, ground := Ground.data }, { on := 9, ground := Ground.data }], guard := none }, { dst := some 100, op := Op.move (Operand.tmp 99), type := 4, pos := "law.go:138", after := #[{ on := 10, ground := Ground.data }], guard := none }, { dst := some 101, op := Op.move (Operand.tmp 5), type := 68, pos := "law.go:138", after := #[{ on := 11, ground := Ground.guard }], guard := some (11, true) }, { dst := some 102, op := Op.move (Operand.tmp 12), type := 3, pos := "law.go:138", after := #[{ on := 11, ground := Ground.guard }], guard := some (11, true) }, { dst := some 103, op := Op.indexAddr 68 (Operand.tmp 101) (Operand.tmp 102), type := 0, pos := "law.go:138", after := #[{ on := 12, ground := Ground.data }, { on := 13, ground := Ground.data }, { on := 11, ground := Ground.guard }], guard := some (11, true) }, { dst := some 104, op := Op.load 78 (Operand.tmp 103), type := 78, pos := "law.go:138", after := #[{ on := 14, ground := Ground.data }, { on := 11, ground := Ground.guard }], guard := some (11, true) }, { dst := some 105, op := Op.move (Operand.tmp 5), type := 68, pos := "law.go:138", after := #[{ on := 11, ground := Ground.guard }], guard := some (11, true) }, { dst := some 106, op := Op.move (Operand.tmp 13), type := 3, pos := "law.go:138", after := #[{ on := 11, ground := Ground.guard }], guard := some (11, true) }, { dst := some 107, op := Op.indexAddr 68 (Operand.tmp 105) (Operand.tmp 106), type := 0, pos := "law.go:138", after := #[{ on := 16, ground := Ground.data }, { on := 17, ground := Ground.data }, { on := 11, ground := Ground.guard }], guard := some (11, true) }, { dst := some 108, op := Op.load 78 (Operand.tmp 107), type := 78, pos := "law.go:138", after := #[{ on := 18, ground := Ground.data }, { on := 11, ground := Ground.guard }], guard := some (11, true) }, { dst := some 109, op := Op.call { callee := Callee.value (Operand.func 66), args := #[Operand.tmp 104, Operand.tmp 108], argTypes := #[78, 78] }, type := 4, pos := "law.go:138", after := #[{ on := 15, ground := Ground.data }, { on := 19, ground := Ground.data }, { on := 11, ground := Ground.chain }, { on := 11, ground := Ground.guard }], guard := some (11, true) }, { dst := some 110, op := Op.move (Operand.tmp 5), type := 68, pos := "law.go:138", after := #[{ on := 11, ground := Ground.guard }], guard := some (11, true) }, { dst := some 111, op := Op.move (Operand.tmp 12), type := 3, pos := "law.go:138", after := #[{ on := 11, ground := Ground.guard }], guard := some (11, true) }, { dst := some 112, op := Op.indexAddr 68 (Operand.tmp 110) (Operand.tmp 111), type := 0, pos := "law.go:138", after := #[{ on := 21, ground := Ground.data }, { on := 22, ground := Ground.data }, { on := 11, ground := Ground.guard }], guard := some (11, true) }, { dst := some 113, op := Op.fieldAddr 78 (Operand.tmp 112) 1, type := 0, pos := "law.go:138", after := #[{ on := 23, ground := Ground.data }, { on := 11, ground := Ground.guard }], guard := some (11, true) }, { dst := some 114, op := Op.load 30 (Operand.tmp 113), type := 30, pos := "law.go:138", after := #[{ on := 24, ground := Ground.data }, { on := 11, ground := Ground.guard }], guard := some (11, true) }, { dst := some 115, op := Op.move (Operand.tmp 5), type := 68, pos := "law.go:138", after := #[{ on := 11, ground := Ground.guard }], guard := some (11, true) }, { dst := some 116, op := Op.move (Operand.tmp 13), type := 3, pos := "law.go:138", after := #[{ on := 11, ground := Ground.guard }], guard := some (11, true) }, { dst := some 117, op := Op.indexAddr 68 (Operand.tmp 115) (Operand.tmp 116), type := 0, pos := "law.go:138", after := #[{ on := 26, ground := Ground.data }, { on := 27, ground := Ground.data }, { on := 11, ground := Ground.guard }], guard := some (11, true) }, { dst := some 118, op := Op.fieldAddr 78 (Operand.tmp 117) 1, type := 0, pos := "law.go:138", after := #[{ on := 28, ground := Ground.data }, { on := 11, ground := Ground.guard }], guard := some (11, true) }, { dst := some 119, op := Op.load 30 (Operand.tmp 118), type := 30, pos := "law.go:138", after := #[{ on := 29, ground := Ground.data }, { on := 11, ground := Ground.guard }], guard := some (11, true) }, { dst := some 120, op := Op.call { callee := Callee.value (Operand.func 41), args := #[Operand.tmp 114, Operand.tmp 119], argTypes := #[30, 30] }, type := 4, pos := "law.go:138", after := #[{ on := 25, ground := Ground.data }, { on := 30, ground := Ground.data }, { on := 20, ground := Ground.chain }, { on := 11, ground := Ground.guard }], guard := some (11, true) }, { dst := some 121, op := Op.binOp BinOp.neq 4 (Operand.tmp 109) (Operand.tmp 120) 4, type := 4, pos := "law.go:138", after := #[{ on := 20, ground := Ground.data }, { on := 31, ground := Ground.data }, { on := 11, ground := Ground.guard }], guard := some (11, true) }, { dst := some 122, op := Op.pick (Operand.tmp 100) (Operand.tmp 121) (Operand.const (Value.bool false)), type := 4, pos := "law.go:138", after := #[{ on := 11, ground := Ground.data }, { on := 32, ground := Ground.data }], guard := none }] true).wp Try.prog Q a w := by
 have hmx : Try.prog.follows .mixedOrders = true := by kernel_rfl
 refine region_detR 34 hmx hr (by kernel_rfl) ?_
 refine DetR.is (o := { dst := some 89, op := Op.move (Operand.tmp 5), type := 68, pos := "law.go:138", after := #[], guard := none }) (u := ?ux35) rfl (by decide) (fun T w' hb hd hB K hK => ?sx35) ?rx35
 case sx35 =>
  have e5 := (hB 5 (by kernel_rfl)).trans hT5
  rw [if_pos (yac_ _ rfl)]
  clear hd hB
  go_simp
  exact hK _ (Below.refl _ _)
 refine DetR.is (o := { dst := some 90, op := Op.move (Operand.tmp 12), type := 3, pos := "law.go:138", after := #[], guard := none }) (u := ?ux36) rfl (by decide) (fun T w' hb hd hB K hK => ?sx36) ?rx36
 case sx36 =>
  have e12 := (hB 12 (by kernel_rfl)).trans hT12
  rw [if_pos (yac_ _ rfl)]
  clear hd hB
  go_simp
  exact hK _ (Below.refl _ _)
 refine DetR.is (o := { dst := some 91, op := Op.indexAddr 68 (Operand.tmp 89) (Operand.tmp 90), type := 0, pos := "law.go:138", after := #[{ on := 0, ground := Ground.data }, { on := 1, ground := Ground.data }], guard := none }) (u := .pointer (some (ad.add (i * 5)))) rfl (by decide) (fun T w' hb hd hB K hK => ?sx37) ?rx37
 case sx37 =>
  have e89 := hd 0 89 _ (by decide) (by kernel_rfl) rfl rfl
  replace e89 : T.getD 89 undef = _ := e89
  have e90 := hd 1 90 _ (by decide) (by kernel_rfl) rfl rfl
  replace e90 : T.getD 90 undef = _ := e90
  rw [if_pos (yac_ _ rfl)]
  clear hd hB
  go_simp
  exact hK _ (Below.refl _ _)
 refine DetR.is (o := { dst := some 92, op := Op.fieldAddr 78 (Operand.tmp 91) 0, type := 0, pos := "law.go:138", after := #[{ on := 2, ground := Ground.data }], guard := none }) (u := .pointer (some (ad.add (i * 5)))) rfl (by decide) (fun T w' hb hd hB K hK => ?sx38) ?rx38
 case sx38 =>
  have e91 := hd 2 91 _ (by decide) (by kernel_rfl) rfl rfl
  replace e91 : T.getD 91 undef = _ := e91
  rw [if_pos (yac_ _ rfl)]
  clear hd hB
  go_simp
  exact hK _ (Below.refl _ _)
 refine DetR.is (o := { dst := some 93, op := Op.load 4 (Operand.tmp 92), type := 4, pos := "law.go:138", after := #[{ on := 3, ground := Ground.data }], guard := none }) (u := .bool x.f0) rfl (by decide) (fun T w' hb hd hB K hK => ?sx39) ?rx39
 case sx39 =>
  have e92 := hd 3 92 _ (by decide) (by kernel_rfl) rfl rfl
  replace e92 : T.getD 92 undef = _ := e92
  rw [if_pos (yac_ _ rfl)]
  have r0 := yad_ hb hx0
  clear hd hB
  go_simp
  exact hK _ (Below.refl _ _)
 refine DetR.is (o := { dst := some 94, op := Op.move (Operand.tmp 5), type := 68, pos := "law.go:138", after := #[], guard := none }) (u := ?ux40) rfl (by decide) (fun T w' hb hd hB K hK => ?sx40) ?rx40
 case sx40 =>
  have e5 := (hB 5 (by kernel_rfl)).trans hT5
  rw [if_pos (yac_ _ rfl)]
  clear hd hB
  go_simp
  exact hK _ (Below.refl _ _)
 refine DetR.is (o := { dst := some 95, op := Op.move (Operand.tmp 13), type := 3, pos := "law.go:138", after := #[], guard := none }) (u := ?ux41) rfl (by decide) (fun T w' hb hd hB K hK => ?sx41) ?rx41
 case sx41 =>
  have e13 := (hB 13 (by kernel_rfl)).trans hT13
  rw [if_pos (yac_ _ rfl)]
  clear hd hB
  go_simp
  exact hK _ (Below.refl _ _)
 refine DetR.is (o := { dst := some 96, op := Op.indexAddr 68 (Operand.tmp 94) (Operand.tmp 95), type := 0, pos := "law.go:138", after := #[{ on := 5, ground := Ground.data }, { on := 6, ground := Ground.data }], guard := none }) (u := .pointer (some (ad.add (k * 5)))) rfl (by decide) (fun T w' hb hd hB K hK => ?sx42) ?rx42
 case sx42 =>
  have e94 := hd 5 94 _ (by decide) (by kernel_rfl) rfl rfl
  replace e94 : T.getD 94 undef = _ := e94
  have e95 := hd 6 95 _ (by decide) (by kernel_rfl) rfl rfl
  replace e95 : T.getD 95 undef = _ := e95
  rw [if_pos (yac_ _ rfl)]
  clear hd hB
  go_simp
  exact hK _ (Below.refl _ _)
 refine DetR.is (o := { dst := some 97, op := Op.fieldAddr 78 (Operand.tmp 96) 0, type := 0, pos := "law.go:138", after := #[{ on := 7, ground := Ground.data }], guard := none }) (u := .pointer (some (ad.add (k * 5)))) rfl (by decide) (fun T w' hb hd hB K hK => ?sx43) ?rx43
 case sx43 =>
  have e96 := hd 7 96 _ (by decide) (by kernel_rfl) rfl rfl
  replace e96 : T.getD 96 undef = _ := e96
  rw [if_pos (yac_ _ rfl)]
  clear hd hB
  go_simp
  exact hK _ (Below.refl _ _)
 refine DetR.is (o := { dst := some 98, op := Op.load 4 (Operand.tmp 97), type := 4, pos := "law.go:138", after := #[{ on := 8, ground := Ground.data }], guard := none }) (u := .bool y.f0) rfl (by decide) (fun T w' hb hd hB K hK => ?sx44) ?rx44
 case sx44 =>
  have e97 := hd 8 97 _ (by decide) (by kernel_rfl) rfl rfl
  replace e97 : T.getD 97 undef = _ := e97
  rw [if_pos (yac_ _ rfl)]
  have r0 := yad_ hb hy0
  clear hd hB
  go_simp
  exact hK _ (Below.refl _ _)
 refine DetR.is (o := { dst := some 99, op := Op.binOp BinOp.eql 4 (Operand.tmp 93) (Operand.tmp 98) 4, type := 4, pos := "law.go:138", after := #[{ on := 4, ground := Ground.data }, { on := 9, ground := Ground.data }], guard := none }) (u := .bool false) rfl (by decide) (fun T w' hb hd hB K hK => ?sx45) ?rx45
 case sx45 =>
  have e93 := hd 4 93 _ (by decide) (by kernel_rfl) rfl rfl
  replace e93 : T.getD 93 undef = _ := e93
  have e98 := hd 9 98 _ (by decide) (by kernel_rfl) rfl rfl
  replace e98 : T.getD 98 undef = _ := e98
  rw [if_pos (yac_ _ rfl)]
  clear hd hB
  go_simp
  exact hK _ (Below.refl _ _)
 refine DetR.is (o := { dst := some 100, op := Op.move (Operand.tmp 99), type := 4, pos := "law.go:138", after := #[{ on := 10, ground := Ground.data }], guard := none }) (u := .bool false) rfl (by decide) (fun T w' hb hd hB K hK => ?sx46) ?rx46
 case sx46 =>
  have e99 := hd 10 99 _ (by decide) (by kernel_rfl) rfl rfl
  replace e99 : T.getD 99 undef = _ := e99
  rw [if_pos (yac_ _ rfl)]
  clear hd hB
  go_simp
  exact hK _ (Below.refl _ _)
 refine DetR.is (o := { dst := some 101, op := Op.move (Operand.tmp 5), type := 68, pos := "law.go:138", after := #[{ on := 11, ground := Ground.guard }], guard := some (11, true) }) (u := ?ux47) rfl (by decide) (fun T w' hb hd hB K hK => ?sx47) ?rx47
 case sx47 =>
  have e5 := (hB 5 (by kernel_rfl)).trans hT5
  have eg := hd 11 100 _ (by decide) (by kernel_rfl) rfl rfl
  replace eg : T.getD 100 undef = .bool false := eg
  rw [if_neg (wanted_no 11 100 false rfl rfl eg)]
  exact hK _ (Below.refl _ _)
 refine DetR.is (o := { dst := some 102, op := Op.move (Operand.tmp 12), type := 3, pos := "law.go:138", after := #[{ on := 11, ground := Ground.guard }], guard := some (11, true) }) (u := ?ux48) rfl (by decide) (fun T w' hb hd hB K hK => ?sx48) ?rx48
 case sx48 =>
  have e12 := (hB 12 (by kernel_rfl)).trans hT12
  have eg := hd 11 100 _ (by decide) (by kernel_rfl) rfl rfl
  replace eg : T.getD 100 undef = .bool false := eg
  rw [if_neg (wanted_no 11 100 false rfl rfl eg)]
  exact hK _ (Below.refl _ _)
 refine DetR.is (o := { dst := some 103, op := Op.indexAddr 68 (Operand.tmp 101) (Operand.tmp 102), type := 0, pos := "law.go:138", after := #[{ on := 12, ground := Ground.data }, { on := 13, ground := Ground.data }, { on := 11, ground := Ground.guard }], guard := some (11, true) }) (u := ?ux49) rfl (by decide) (fun T w' hb hd hB K hK => ?sx49) ?rx49
 case sx49 =>
  have e101 := hd 12 101 _ (by decide) (by kernel_rfl) rfl rfl
  replace e101 : T.getD 101 undef = _ := e101
  have e102 := hd 13 102 _ (by decide) (by kernel_rfl) rfl rfl
  replace e102 : T.getD 102 undef = _ := e102
  have eg := hd 11 100 _ (by decide) (by kernel_rfl) rfl rfl
  replace eg : T.getD 100 undef = .bool false := eg
  rw [if_neg (wanted_no 11 100 false rfl rfl eg)]
  exact hK _ (Below.refl _ _)
 refine DetR.is (o := { dst := some 104, op := Op.load 78 (Operand.tmp 103), type := 78, pos := "law.go:138", after := #[{ on := 14, ground := Ground.data }, { on := 11, ground := Ground.guard }], guard := some (11, true) }) (u := ?ux50) rfl (by decide) (fun T w' hb hd hB K hK => ?sx50) ?rx50
 case sx50 =>
  have e103 := hd 14 103 _ (by decide) (by kernel_rfl) rfl rfl
  replace e103 : T.getD 103 undef = _ := e103
  have eg := hd 11 100 _ (by decide) (by kernel_rfl) rfl rfl
  replace eg : T.getD 100 undef = .bool false := eg
  rw [if_neg (wanted_no 11 100 false rfl rfl eg)]
  exact hK _ (Below.refl _ _)
 refine DetR.is (o := { dst := some 105, op := Op.move (Operand.tmp 5), type := 68, pos := "law.go:138", after := #[{ on := 11, ground := Ground.guard }], guard := some (11, true) }) (u := ?ux51) rfl (by decide) (fun T w' hb hd hB K hK => ?sx51) ?rx51
 case sx51 =>
  have e5 := (hB 5 (by kernel_rfl)).trans hT5
  have eg := hd 11 100 _ (by decide) (by kernel_rfl) rfl rfl
  replace eg : T.getD 100 undef = .bool false := eg
  rw [if_neg (wanted_no 11 100 false rfl rfl eg)]
  exact hK _ (Below.refl _ _)
 refine DetR.is (o := { dst := some 106, op := Op.move (Operand.tmp 13), type := 3, pos := "law.go:138", after := #[{ on := 11, ground := Ground.guard }], guard := some (11, true) }) (u := ?ux52) rfl (by decide) (fun T w' hb hd hB K hK => ?sx52) ?rx52
 case sx52 =>
  have e13 := (hB 13 (by kernel_rfl)).trans hT13
  have eg := hd 11 100 _ (by decide) (by kernel_rfl) rfl rfl
  replace eg : T.getD 100 undef = .bool false := eg
  rw [if_neg (wanted_no 11 100 false rfl rfl eg)]
  exact hK _ (Below.refl _ _)
 refine DetR.is (o := { dst := some 107, op := Op.indexAddr 68 (Operand.tmp 105) (Operand.tmp 106), type := 0, pos := "law.go:138", after := #[{ on := 16, ground := Ground.data }, { on := 17, ground := Ground.data }, { on := 11, ground := Ground.guard }], guard := some (11, true) }) (u := ?ux53) rfl (by decide) (fun T w' hb hd hB K hK => ?sx53) ?rx53
 case sx53 =>
  have e105 := hd 16 105 _ (by decide) (by kernel_rfl) rfl rfl
  replace e105 : T.getD 105 undef = _ := e105
  have e106 := hd 17 106 _ (by decide) (by kernel_rfl) rfl rfl
  replace e106 : T.getD 106 undef = _ := e106
  have eg := hd 11 100 _ (by decide) (by kernel_rfl) rfl rfl
  replace eg : T.getD 100 undef = .bool false := eg
  rw [if_neg (wanted_no 11 100 false rfl rfl eg)]
  exact hK _ (Below.refl _ _)
 refine DetR.is (o := { dst := some 108, op := Op.load 78 (Operand.tmp 107), type := 78, pos := "law.go:138", after := #[{ on := 18, ground := Ground.data }, { on := 11, ground := Ground.guard }], guard := some (11, true) }) (u := ?ux54) rfl (by decide) (fun T w' hb hd hB K hK => ?sx54) ?rx54
 case sx54 =>
  have e107 := hd 18 107 _ (by decide) (by kernel_rfl) rfl rfl
  replace e107 : T.getD 107 undef = _ := e107
  have eg := hd 11 100 _ (by decide) (by kernel_rfl) rfl rfl
  replace eg : T.getD 100 undef = .bool false := eg
  rw [if_neg (wanted_no 11 100 false rfl rfl eg)]
  exact hK _ (Below.refl _ _)
 refine DetR.is (o := { dst := some 109, op := Op.call { callee := Callee.value (Operand.func 66), args := #[Operand.tmp 104, Operand.tmp 108], argTypes := #[78, 78] }, type := 4, pos := "law.go:138", after := #[{ on := 15, ground := Ground.data }, { on := 19, ground := Ground.data }, { on := 11, ground := Ground.chain }, { on := 11, ground := Ground.guard }], guard := some (11, true) }) (u := ?ux55) rfl (by decide) (fun T w' hb hd hB K hK => ?sx55) ?rx55
 case sx55 =>
  have e104 := hd 15 104 _ (by decide) (by kernel_rfl) rfl rfl
  replace e104 : T.getD 104 undef = _ := e104
  have e108 := hd 19 108 _ (by decide) (by kernel_rfl) rfl rfl
  replace e108 : T.getD 108 undef = _ := e108
  have eg := hd 11 100 _ (by decide) (by kernel_rfl) rfl rfl
  replace eg : T.getD 100 undef = .bool false := eg
  rw [if_neg (wanted_no 11 100 false rfl rfl eg)]
  exact hK _ (Below.refl _ _)
 refine DetR.is (o := { dst := some 110, op := Op.move (Operand.tmp 5), type := 68, pos := "law.go:138", after := #[{ on := 11, ground := Ground.guard }], guard := some (11, true) }) (u := ?ux56) rfl (by decide) (fun T w' hb hd hB K hK => ?sx56) ?rx56
 case sx56 =>
  have e5 := (hB 5 (by kernel_rfl)).trans hT5
  have eg := hd 11 100 _ (by decide) (by kernel_rfl) rfl rfl
  replace eg : T.getD 100 undef = .bool false := eg
  rw [if_neg (wanted_no 11 100 false rfl rfl eg)]
  exact hK _ (Below.refl _ _)
 refine DetR.is (o := { dst := some 111, op := Op.move (Operand.tmp 12), type := 3, pos := "law.go:138", after := #[{ on := 11, ground := Ground.guard }], guard := some (11, true) }) (u := ?ux57) rfl (by decide) (fun T w' hb hd hB K hK => ?sx57) ?rx57
 case sx57 =>
  have e12 := (hB 12 (by kernel_rfl)).trans hT12
  have eg := hd 11 100 _ (by decide) (by kernel_rfl) rfl rfl
  replace eg : T.getD 100 undef = .bool false := eg
  rw [if_neg (wanted_no 11 100 false rfl rfl eg)]
  exact hK _ (Below.refl _ _)
 refine DetR.is (o := { dst := some 112, op := Op.indexAddr 68 (Operand.tmp 110) (Operand.tmp 111), type := 0, pos := "law.go:138", after := #[{ on := 21, ground := Ground.data }, { on := 22, ground := Ground.data }, { on := 11, ground := Ground.guard }], guard := some (11, true) }) (u := ?ux58) rfl (by decide) (fun T w' hb hd hB K hK => ?sx58) ?rx58
 case sx58 =>
  have e110 := hd 21 110 _ (by decide) (by kernel_rfl) rfl rfl
  replace e110 : T.getD 110 undef = _ := e110
  have e111 := hd 22 111 _ (by decide) (by kernel_rfl) rfl rfl
  replace e111 : T.getD 111 undef = _ := e111
  have eg := hd 11 100 _ (by decide) (by kernel_rfl) rfl rfl
  replace eg : T.getD 100 undef = .bool false := eg
  rw [if_neg (wanted_no 11 100 false rfl rfl eg)]
  exact hK _ (Below.refl _ _)
 refine DetR.is (o := { dst := some 113, op := Op.fieldAddr 78 (Operand.tmp 112) 1, type := 0, pos := "law.go:138", after := #[{ on := 23, ground := Ground.data }, { on := 11, ground := Ground.guard }], guard := some (11, true) }) (u := ?ux59) rfl (by decide) (fun T w' hb hd hB K hK => ?sx59) ?rx59
 case sx59 =>
  have e112 := hd 23 112 _ (by decide) (by kernel_rfl) rfl rfl
  replace e112 : T.getD 112 undef = _ := e112
  have eg := hd 11 100 _ (by decide) (by kernel_rfl) rfl rfl
  replace eg : T.getD 100 undef = .bool false := eg
  rw [if_neg (wanted_no 11 100 false rfl rfl eg)]
  exact hK _ (Below.refl _ _)
 refine DetR.is (o := { dst := some 114, op := Op.load 30 (Operand.tmp 113), type := 30, pos := "law.go:138", after := #[{ on := 24, ground := Ground.data }, { on := 11, ground := Ground.guard }], guard := some (11, true) }) (u := ?ux60) rfl (by decide) (fun T w' hb hd hB K hK => ?sx60) ?rx60
 case sx60 =>
  have e113 := hd 24 113 _ (by decide) (by kernel_rfl) rfl rfl
  replace e113 : T.getD 113 undef = _ := e113
  have eg := hd 11 100 _ (by decide) (by kernel_rfl) rfl rfl
  replace eg : T.getD 100 undef = .bool false := eg
  rw [if_neg (wanted_no 11 100 false rfl rfl eg)]
  exact hK _ (Below.refl _ _)
 refine DetR.is (o := { dst := some 115, op := Op.move (Operand.tmp 5), type := 68, pos := "law.go:138", after := #[{ on := 11, ground := Ground.guard }], guard := some (11, true) }) (u := ?ux61) rfl (by decide) (fun T w' hb hd hB K hK => ?sx61) ?rx61
 case sx61 =>
  have e5 := (hB 5 (by kernel_rfl)).trans hT5
  have eg := hd 11 100 _ (by decide) (by kernel_rfl) rfl rfl
  replace eg : T.getD 100 undef = .bool false := eg
  rw [if_neg (wanted_no 11 100 false rfl rfl eg)]
  exact hK _ (Below.refl _ _)
 refine DetR.is (o := { dst := some 116, op := Op.move (Operand.tmp 13), type := 3, pos := "law.go:138", after := #[{ on := 11, ground := Ground.guard }], guard := some (11, true) }) (u := ?ux62) rfl (by decide) (fun T w' hb hd hB K hK => ?sx62) ?rx62
 case sx62 =>
  have e13 := (hB 13 (by kernel_rfl)).trans hT13
  have eg := hd 11 100 _ (by decide) (by kernel_rfl) rfl rfl
  replace eg : T.getD 100 undef = .bool false := eg
  rw [if_neg (wanted_no 11 100 false rfl rfl eg)]
  exact hK _ (Below.refl _ _)
 refine DetR.is (o := { dst := some 117, op := Op.indexAddr 68 (Operand.tmp 115) (Operand.tmp 116), type := 0, pos := "law.go:138", after := #[{ on := 26, ground := Ground.data }, { on := 27, ground := Ground.data }, { on := 11, ground := Ground.guard }], guard := some (11, true) }) (u := ?ux63) rfl (by decide) (fun T w' hb hd hB K hK => ?sx63) ?rx63
 case sx63 =>
  have e115 := hd 26 115 _ (by decide) (by kernel_rfl) rfl rfl
  replace e115 : T.getD 115 undef = _ := e115
  have e116 := hd 27 116 _ (by decide) (by kernel_rfl) rfl rfl
  replace e116 : T.getD 116 undef = _ := e116
  have eg := hd 11 100 _ (by decide) (by kernel_rfl) rfl rfl
  replace eg : T.getD 100 undef = .bool false := eg
  rw [if_neg (wanted_no 11 100 false rfl rfl eg)]
  exact hK _ (Below.refl _ _)
 refine DetR.is (o := { dst := some 118, op := Op.fieldAddr 78 (Operand.tmp 117) 1, type := 0, pos := "law.go:138", after := #[{ on := 28, ground := Ground.data }, { on := 11, ground := Ground.guard }], guard := some (11, true) }) (u := ?ux64) rfl (by decide) (fun T w' hb hd hB K hK => ?sx64) ?rx64
 case sx64 =>
  have e117 := hd 28 117 _ (by decide) (by kernel_rfl) rfl rfl
  replace e117 : T.getD 117 undef = _ := e117
  have eg := hd 11 100 _ (by decide) (by kernel_rfl) rfl rfl
  replace eg : T.getD 100 undef = .bool false := eg
  rw [if_neg (wanted_no 11 100 false rfl rfl eg)]
  exact hK _ (Below.refl _ _)
 refine DetR.is (o := { dst := some 119, op := Op.load 30 (Operand.tmp 118), type := 30, pos := "law.go:138", after := #[{ on := 29, ground := Ground.data }, { on := 11, ground := Ground.guard }], guard := some (11, true) }) (u := ?ux65) rfl (by decide) (fun T w' hb hd hB K hK => ?sx65) ?rx65
 case sx65 =>
  have e118 := hd 29 118 _ (by decide) (by kernel_rfl) rfl rfl
  replace e118 : T.getD 118 undef = _ := e118
  have eg := hd 11 100 _ (by decide) (by kernel_rfl) rfl rfl
  replace eg : T.getD 100 undef = .bool false := eg
  rw [if_neg (wanted_no 11 100 false rfl rfl eg)]
  exact hK _ (Below.refl _ _)
 refine DetR.is (o := { dst := some 120, op := Op.call { callee := Callee.value (Operand.func 41), args := #[Operand.tmp 114, Operand.tmp 119], argTypes := #[30, 30] }, type := 4, pos := "law.go:138", after := #[{ on := 25, ground := Ground.data }, { on := 30, ground := Ground.data }, { on := 20, ground := Ground.chain }, { on := 11, ground := Ground.guard }], guard := some (11, true) }) (u := ?ux66) rfl (by decide) (fun T w' hb hd hB K hK => ?sx66) ?rx66
 case sx66 =>
  have e114 := hd 25 114 _ (by decide) (by kernel_rfl) rfl rfl
  replace e114 : T.getD 114 undef = _ := e114
  have e119 := hd 30 119 _ (by decide) (by kernel_rfl) rfl rfl
  replace e119 : T.getD 119 undef = _ := e119
  have eg := hd 11 100 _ (by decide) (by kernel_rfl) rfl rfl
  replace eg : T.getD 100 undef = .bool false := eg
  rw [if_neg (wanted_no 11 100 false rfl rfl eg)]
  exact hK _ (Below.refl _ _)
 refine DetR.is (o := { dst := some 121, op := Op.binOp BinOp.neq 4 (Operand.tmp 109) (Operand.tmp 120) 4, type := 4, pos := "law.go:138", after := #[{ on := 20, ground := Ground.data }, { on := 31, ground := Ground.data }, { on := 11, ground := Ground.guard }], guard := some (11, true) }) (u := ?ux67) rfl (by decide) (fun T w' hb hd hB K hK => ?sx67) ?rx67
 case sx67 =>
  have e109 := hd 20 109 _ (by decide) (by kernel_rfl) rfl rfl
  replace e109 : T.getD 109 undef = _ := e109
  have e120 := hd 31 120 _ (by decide) (by kernel_rfl) rfl rfl
  replace e120 : T.getD 120 undef = _ := e120
  have eg := hd 11 100 _ (by decide) (by kernel_rfl) rfl rfl
  replace eg : T.getD 100 undef = .bool false := eg
  rw [if_neg (wanted_no 11 100 false rfl rfl eg)]
  exact hK _ (Below.refl _ _)
 refine DetR.is (o := { dst := some 122, op := Op.pick (Operand.tmp 100) (Operand.tmp 121) (Operand.const (Value.bool false)), type := 4, pos := "law.go:138", after := #[{ on := 11, ground := Ground.data }, { on := 32, ground := Ground.data }], guard := none }) (u := .bool false) rfl (by decide) (fun T w' hb hd hB K hK => ?sx68) ?rx68
 case sx68 =>
  have e100 := hd 11 100 _ (by decide) (by kernel_rfl) rfl rfl
  replace e100 : T.getD 100 undef = _ := e100
  have e121 := hd 32 121 _ (by decide) (by kernel_rfl) rfl rfl
  replace e121 : T.getD 121 undef = _ := e121
  rw [if_pos (yac_ _ rfl)]
  clear hd hB
  go_simp
  exact hK _ (Below.refl _ _)
 refine DetR.done [some 89, some 90, some 91, some 92, some 93, some 94, some 95, some 96, some 97, some 98, some 99, some 100, some 101, some 102, some 103, some 104, some 105, some 106, some 107, some 108, some 109, some 110, some 111, some 112, some 113, some 114, some 115, some 116, some 117, some 118, some 119, some 120, some 121, some 122] (by kernel_rfl) rfl (by kernel_rfl) ?_
 intro v w' hb hv
 exact hK v w' hb (hv 33 _ (by decide) rfl)
set_option maxHeartbeats 4000000 in
set_option maxRecDepth 100000 in
theorem OrderAtoms_r30 {id : Nat} {a : Act} {w : World} {Q : Exit → Act → World → Prop} {ad : Addr} {ln cc i g : Nat} {x : S78} {xA xB : Option Addr} {xc xd : Nat}
  (hr : regionOk #[{ dst := some 139, op := Op.move (Operand.tmp 5), type := 68, pos := "law.go:143", after := #[], guard := none }, { dst := some 140, op := Op.move (Operand.tmp 12), type := 3, pos := "law.go:143", after := #[], guard := none }, { dst := some 141, op := Op.indexAddr 68 (Operand.tmp 139) (Operand.tmp 140), type := 0, pos := "law.go:143", after := #[{ on := 0, ground := Ground.data }, { on := 1, ground := Ground.data }], guard := none }, { dst := some 142, op := Op.load 78 (Operand.tmp 141), type := 78, pos := "law.go:143", after := #[{ on := 2, ground := Ground.data }], guard := none }, { dst := some 143, op := Op.call { callee := Callee.value (Operand.func 68), args := #[Operand.tmp 142], argTypes := #[78] }, type := 85, pos := "law.go:143", after := #[{ on := 3, ground := Ground.data }], guard := none }, { dst := some 144, op := Op.call { callee := Callee.builtin Builtin.len, args := #[Operand.tmp 143], argTypes := #[85] }, type := 3, pos := "law.go:143", after := #[{ on := 4, ground := Ground.data }], guard := none }, { dst := some 145, op := Op.binOp BinOp.neq 3 (Operand.tmp 144) (Operand.const (Value.int IntKind.i64 1)) 3, type := 4, pos := "law.go:143", after := #[{ on := 5, ground := Ground.data }], guard := none }, { dst := some 146, op := Op.move (Operand.tmp 145), type := 4, pos := "law.go:143", after := #[{ on := 6, ground := Ground.data }, { on := 4, ground := Ground.chain }], guard := none }, { dst := some 147, op := Op.load 78 (Operand.tmp 14), type := 78, pos := "law.go:143", after := #[{ on := 7, ground := Ground.guard }], guard := some (7, false) }, { dst := some 148, op := Op.call { callee := Callee.value (Operand.func 68), args := #[Operand.tmp 147], argTypes := #[78] }, type := 85, pos := "law.go:143", after := #[{ on := 8, ground := Ground.data }, { on := 7, ground := Ground.chain }, { on := 7, ground := Ground.guard }], guard := some (7, false) }, { dst := some 149, op := Op.call { callee := Callee.builtin Builtin.len, args := #[Operand.tmp 148], argTypes := #[85] }, type := 3, pos := "law.go:143", after := #[{ on := 9, ground := Ground.data }, { on := 7, ground := Ground.guard }], guard := some (7, false) }, { dst := some 150, op := Op.binOp BinOp.neq 3 (Operand.tmp 149) (Operand.const (Value.int IntKind.i64 1)) 3, type := 4, pos := "law.go:143", after := #[{ on := 10, ground := Ground.data }, { on := 7, ground := Ground.guard }], guard := some (7, false) }, { dst := some 151, op := Op.pick (Operand.tmp 146) (Operand.const (Value.bool true)) (Operand.tmp 150), type := 4, pos := "law.go:143", after := #[{ on := 7, ground := Ground.data }, { on := 11, ground := Ground.data }], guard := none }, { dst := some 152, op := Op.move (Operand.tmp 151), type := 4, pos := "law.go:143", after := #[{ on := 12, ground := Ground.data }, { on := 9, ground := Ground.chain }], guard := none }, { dst := some 153, op := Op.move (Operand.tmp 5), type := 68, pos := "law.go:143", after := #[{ on := 13, ground := Ground.guard }], guard := some (13, false) }, { dst := some 154, op := Op.move (Operand.tmp 12), type := 3, pos := "law.go:143", after := #[{ on := 13, ground := Ground.guard }], guard := some (13, false) }, { dst := some 155, op := Op.indexAddr 68 (Operand.tmp 153) (Operand.tmp 154), type := 0, pos := "law.go:143", after := #[{ on := 14, ground := Ground.data }, { on := 15, ground := Ground.data }, { on := 13, ground := Ground.guard }], guard := some (13, false) }, { dst := some 156, op := Op.load 78 (Operand.tmp 155), type := 78, pos := "law.go:143", after := #[{ on := 16, ground := Ground.data }, { on := 13, ground := Ground.guard }], guard := some (13, false) }, { dst := some 157, op := Op.load 78 (Operand.tmp 14), type := 78, pos := "law.go:143", after := #[{ on := 13, ground := Ground.guard }], guard := some (13, false) }, { dst := some 158, op := Op.call { callee := Callee.value (Operand.func 66), args := #[Operand.tmp 156, Operand.tmp 157], argTypes := #[78, 78] }, type := 4, pos := "law.go:143", after := #[{ on := 17, ground := Ground.data }, { on := 18, ground := Ground.data }, { on := 13, ground := Ground.chain }, { on := 13, ground := Ground.guard }], guard := some (13, false) }, { dst := some 159, op := Op.pick (Operand.tmp 152) (Operand.const (Value.bool true)) (Operand.tmp 158), type := 4, pos := "law.go:143", after := #[{ on := 13, ground := Ground.data }, { on := 19, ground := Ground.data }], guard := none }] a.tmps.size = true)
  (hT5 : a.tmps.getD 5 undef = .slice (some ad) ln cc)
  (hT12 : a.tmps.getD 12 undef = .int .i64 (i : Int))
  (hT14 : a.tmps.getD 14 undef = .pointer (some ⟨g, 0, none⟩)) (hX14 : w.heap[g]? = some (.cells #[.bool x.f0, .int .i64 x.f2.f0, .slice xB x.f2.f1.length xd, .int .i64 x.f1.f0, .slice xA x.f1.f1.length xc] 78 (0, 0)))
  (hF4 : ∀ w1, Below w.heap.size w w1 → Calls Try.prog 68 #[.agg #[.bool x.f0, .int .i64 x.f1.f0, .slice xA x.f1.f1.length xc, .int .i64 x.f2.f0, .slice xB x.f2.f1.length xd]] w1 fun e w2 => ∃ u, e = .returned u ∧ OneTold u w2 ∧ Below w1.heap.size w1 w2)
  (hF9 : ∀ w1, Below w.heap.size w w1 → Calls Try.prog 68 #[.agg #[.bool x.f0, .int .i64 x.f2.f0, .slice xB x.f2.f1.length xd, .int .i64 x.f1.f0, .slice xA x.f1.f1.length xc]] w1 fun e w2 => ∃ u, e = .returned u ∧ OneTold u w2 ∧ Below w1.heap.size w1 w2)
  (hF19 : ∀ w1, Below w.heap.size w w1 → Calls Try.prog 66 #[.agg #[.bool x.f0, .int .i64 x.f1.f0, .slice xA x.f1.f1.length xc, .int .i64 x.f2.f0, .slice xB x.f2.f1.length xd], .agg #[.bool x.f0, .int .i64 x.f2.f0, .slice xB x.f2.f1.length xd, .int .i64 x.f1.f0, .slice xA x.f1.f1.length xc]] w1 fun e w2 => e = .returned (.bool false) ∧ Below w1.heap.size w1 w2)
  (hi : i < ln) (hlc : ln ≤ cc)
  (hx0 : w.cell? (ad.add (i * 5)) = some (.bool x.f0))
  (hx1 : w.cell? ⟨(ad.add (i * 5)).block, (ad.add (i * 5)).off + 1, none⟩ = some (.int .i64 x.f1.f0))
  (hx2 : w.cell? ⟨(ad.add (i * 5)).block, (ad.add (i * 5)).off + 2, none⟩ = some (.slice xA x.f1.f1.length xc))
  (hx3 : w.cell? ⟨(ad.add (i * 5)).block, (ad.add (i * 5)).off + 3, none⟩ = some (.int .i64 x.f2.f0))
  (hx4 : w.cell? ⟨(ad.add (i * 5)).block, (ad.add (i * 5)).off + 4, none⟩ = some (.slice xB x.f2.f1.length xd))
  (hK : ∀ v w', Below w.heap.size w w' → v 20 = .bool false → Q .normal { tmps := layL [some 139, some 140, some 141, some 142, some 143, some 144, some 145, some 146, some 147, some 148, some 149, some 150, some 151, some 152, some 153, some 154, some 155, some 156, some 157, some 158, some 159] 0 v a.tmps, defers := a.defers } w') :
  (Code.region id #[{ dst := some 139, op := Op.move (Operand.tmp 5), type := 68, pos := "law.go:143", after := #[], guard := none }, { dst := some 140, op := Op.move (Operand.tmp 12), type := 3, pos := "law.go:143", after := #[], guard := none }, { dst := some 141, op := Op.indexAddr 68 (Operand.tmp 139) (Operand.tmp 140), type := 0, pos := "law.go:143", after := #[{ on := 0, ground := Ground.data }, { on := 1, ground := Ground.data }], guard := none }, { dst := some 142, op := Op.load 78 (Operand.tmp 141), type := 78, pos := "law.go:143", after := #[{ on := 2, ground := Ground.data }], guard := none }, { dst := some 143, op := Op.call { callee := Callee.value (Operand.func 68), args := #[Operand.tmp 142], argTypes := #[78] }, type := 85, pos := "law.go:143", after := #[{ on := 3, ground := Ground.data }], guard := none }, { dst := some 144, op := Op.call { callee := Callee.builtin Builtin.len, args := #[Operand.tmp 143], argTypes := #[85] }, type := 3, pos := "law.go:143", after := #[{ on := 4, ground := Ground.data }], guard := none }, { dst := some 145, op := Op.binOp BinOp.neq 3 (Operand.tmp 144) (Operand.const (Value.int IntKind.i64 1)) 3, type := 4, pos := "law.go:143", after := #[{ on := 5, ground := Ground.data }], guard := none }, { dst := some 146, op := Op.move (Operand.tmp 145), type := 4, pos := "law.go:143", after := #[{ on := 6, ground := Ground.data }, { on := 4, ground := Ground.chain }], guard := none }, { dst := some 147, op := Op.load 78 (Operand.tmp 14), type := 78, pos := "law.go:143", after := #[{ on := 7, ground := Ground.guard }], guard := some (7, false) }, { dst := some 148, op := Op.call { callee := Callee.value (Operand.func 68), args := #[Operand.tmp 147], argTypes := #[78] }, type := 85, pos := "law.go:143", after := #[{ on := 8, ground := Ground.data }, { on := 7, ground := Ground.chain }, { on := 7, ground := Ground.guard }], guard := some (7, false) }, { dst := some 149, op := Op.call { callee := Callee.builtin Builtin.len, args := #[Operand.tmp 148], argTypes := #[85] }, type := 3, pos := "law.go:143", after := #[{ on := 9, ground := Ground.data }, { on := 7, ground := Ground.guard }], guard := some (7, false) }, { dst := some 150, op := Op.binOp BinOp.neq 3 (Operand.tmp 149) (Operand.const (Value.int IntKind.i64 1)) 3, type := 4, pos := "law.go:143", after := #[{ on := 10, ground := Ground.data }, { on := 7, ground := Ground.guard }], guard := some (7, false) }, { dst := some 151, op := Op.pick (Operand.tmp 146) (Operand.const (Value.bool true)) (Operand.tmp 150), type := 4, pos := "law.go:143", after := #[{ on := 7, ground := Ground.data }, { on := 11, ground := Ground.data }], guard := none }, { dst := some 152, op := Op.move (Operand.tmp 151), type := 4, pos := "law.go:143", after := #[{ on := 12, ground := Ground.data }, { on := 9, ground := Ground.chain }], guard := none }, { dst := some 153, op := Op.move (Operand.tmp 5), type := 68, pos := "law.go:143", after := #[{ on := 13, ground := Ground.guard }], guard := some (13, false) }, { dst := some 154, op := Op.move (Operand.tmp 12), type := 3, pos := "law.go:143", after := #[{ on := 13, ground := Ground.guard }], guard := some (13, false) }, { dst := some 155, op := Op.indexAddr 68 (Operand.tmp 153) (Operand.tmp 154), type := 0, pos := "law.go:143", after := #[{ on := 14, ground := Ground.data }, { on := 15, ground := Ground.data }, { on := 13, ground := Ground.guard }], guard := some (13, false) }, { dst := some 156, op := Op.load 78 (Operand.tmp 155), type := 78, pos := "law.go:143", after := #[{ on := 16, ground := Ground.data }, { on := 13, ground := Ground.guard }], guard := some (13, false) }, { dst := some 157, op := Op.load 78 (Operand.tmp 14), type := 78, pos := "law.go:143", after := #[{ on := 13, ground := Ground.guard }], guard := some (13, false) }, { dst := some 158, op := Op.call { callee := Callee.value (Operand.func 66), args := #[Operand.tmp 156, Operand.tmp 157], argTypes := #[78, 78] }, type := 4, pos := "law.go:143", after := #[{ on := 17, ground := Ground.data }, { on := 18, ground := Ground.data }, { on := 13, ground := Ground.chain }, { on := 13, ground := Ground.guard }], guard := some (13, false) }, { dst := some 159, op := Op.pick (Operand.tmp 152) (Operand.const (Value.bool true)) (Operand.tmp 158), type := 4, pos := "law.go:143", after := #[{ on := 13, ground := Ground.data }, { on := 19, ground := Ground.data }], guard := none }] true).wp Try.prog Q a w := by
 have hmx : Try.prog.follows .mixedOrders = true := by kernel_rfl
 refine region_detR 21 hmx hr (by kernel_rfl) ?_
 refine DetR.is (o := { dst := some 139, op := Op.move (Operand.tmp 5), type := 68, pos := "law.go:143", after := #[], guard := none }) (u := ?ux69) rfl (by decide) (fun T w' hb hd hB K hK => ?sx69) ?rx69
 case sx69 =>
  have e5 := (hB 5 (by kernel_rfl)).trans hT5
  rw [if_pos (yac_ _ rfl)]
  clear hd hB
  go_simp
  exact hK _ (Below.refl _ _)
 refine DetR.is (o := { dst := some 140, op := Op.move (Operand.tmp 12), type := 3, pos := "law.go:143", after := #[], guard := none }) (u := ?ux70) rfl (by decide) (fun T w' hb hd hB K hK => ?sx70) ?rx70
 case sx70 =>
  have e12 := (hB 12 (by kernel_rfl)).trans hT12
  rw [if_pos (yac_ _ rfl)]
  clear hd hB
  go_simp
  exact hK _ (Below.refl _ _)
 refine DetR.is (o := { dst := some 141, op := Op.indexAddr 68 (Operand.tmp 139) (Operand.tmp 140), type := 0, pos := "law.go:143", after := #[{ on := 0, ground := Ground.data }, { on := 1, ground := Ground.data }], guard := none }) (u := .pointer (some (ad.add (i * 5)))) rfl (by decide) (fun T w' hb hd hB K hK => ?sx71) ?rx71
 case sx71 =>
  have e139 := hd 0 139 _ (by decide) (by kernel_rfl) rfl rfl
  replace e139 : T.getD 139 undef = _ := e139
  have e140 := hd 1 140 _ (by decide) (by kernel_rfl) rfl rfl
  replace e140 : T.getD 140 undef = _ := e140
  rw [if_pos (yac_ _ rfl)]
  clear hd hB
  go_simp
  exact hK _ (Below.refl _ _)
 refine DetR.is (o := { dst := some 142, op := Op.load 78 (Operand.tmp 141), type := 78, pos := "law.go:143", after := #[{ on := 2, ground := Ground.data }], guard := none }) (u := .agg #[.bool x.f0, .int .i64 x.f1.f0, .slice xA x.f1.f1.length xc, .int .i64 x.f2.f0, .slice xB x.f2.f1.length xd]) rfl (by decide) (fun T w' hb hd hB K hK => ?sx72) ?rx72
 case sx72 =>
  have e141 := hd 2 141 _ (by decide) (by kernel_rfl) rfl rfl
  replace e141 : T.getD 141 undef = _ := e141
  rw [if_pos (yac_ _ rfl)]
  have r0 := yad_ hb hx0
  have r1 := yad_ hb hx1
  have r2 := yad_ hb hx2
  have r3 := yad_ hb hx3
  have r4 := yad_ hb hx4
  clear hd hB
  go_simp
  exact hK _ (Below.refl _ _)
 refine DetR.cons (o := { dst := some 143, op := Op.call { callee := Callee.value (Operand.func 68), args := #[Operand.tmp 142], argTypes := #[78] }, type := 85, pos := "law.go:143", after := #[{ on := 3, ground := Ground.data }], guard := none }) (OneTold) rfl (by decide) (OneTold.grows') (fun T w' hb hd hB K hK => ?sx73) ?rx73
 case sx73 =>
  have e142 := hd 3 142 _ (by decide) (by kernel_rfl) rfl rfl
  replace e142 : T.getD 142 undef = _ := e142
  rw [if_pos (yac_ _ rfl)]
  have hcl := hF4 w' hb
  clear hd hB
  go_simp
  go_at_call 68
  refine hcl.mono ?_
  rintro e w2 ⟨u, rfl, h1, h2⟩
  exact hK _ _ h2 h1
 refine DetR.is (o := { dst := some 144, op := Op.call { callee := Callee.builtin Builtin.len, args := #[Operand.tmp 143], argTypes := #[85] }, type := 3, pos := "law.go:143", after := #[{ on := 4, ground := Ground.data }], guard := none }) (u := .int .i64 1) rfl (by decide) (fun T w' hb hd hB K hK => ?sx74) ?rx74
 case sx74 =>
  obtain ⟨g143, e143⟩ := (hd 4 143 _ (by decide) (by kernel_rfl) rfl rfl)
  rw [if_pos (yac_ _ rfl)]
  clear hd hB
  go_simp
  exact hK _ (Below.refl _ _)
 refine DetR.is (o := { dst := some 145, op := Op.binOp BinOp.neq 3 (Operand.tmp 144) (Operand.const (Value.int IntKind.i64 1)) 3, type := 4, pos := "law.go:143", after := #[{ on := 5, ground := Ground.data }], guard := none }) (u := .bool false) rfl (by decide) (fun T w' hb hd hB K hK => ?sx75) ?rx75
 case sx75 =>
  have e144 := hd 5 144 _ (by decide) (by kernel_rfl) rfl rfl
  replace e144 : T.getD 144 undef = _ := e144
  rw [if_pos (yac_ _ rfl)]
  clear hd hB
  go_simp
  exact hK _ (Below.refl _ _)
 refine DetR.is (o := { dst := some 146, op := Op.move (Operand.tmp 145), type := 4, pos := "law.go:143", after := #[{ on := 6, ground := Ground.data }, { on := 4, ground := Ground.chain }], guard := none }) (u := .bool false) rfl (by decide) (fun T w' hb hd hB K hK => ?sx76) ?rx76
 case sx76 =>
  have e145 := hd 6 145 _ (by decide) (by kernel_rfl) rfl rfl
  replace e145 : T.getD 145 undef = _ := e145
  rw [if_pos (yac_ _ rfl)]
  clear hd hB
  go_simp
  exact hK _ (Below.refl _ _)
 refine DetR.is (o := { dst := some 147, op := Op.load 78 (Operand.tmp 14), type := 78, pos := "law.go:143", after := #[{ on := 7, ground := Ground.guard }], guard := some (7, false) }) (u := .agg #[.bool x.f0, .int .i64 x.f2.f0, .slice xB x.f2.f1.length xd, .int .i64 x.f1.f0, .slice xA x.f1.f1.length xc]) rfl (by decide) (fun T w' hb hd hB K hK => ?sx77) ?rx77
 case sx77 =>
  have e14 := (hB 14 (by kernel_rfl)).trans hT14
  have q14_0 : w'.cell? ⟨g, 0, none⟩ = some (.bool x.f0) := (yaa_ (kB_ hX14 hb) 0).trans rfl
  have q14_1 : w'.cell? ⟨g, 1, none⟩ = some (.int .i64 x.f2.f0) := (yaa_ (kB_ hX14 hb) 1).trans rfl
  have q14_2 : w'.cell? ⟨g, 2, none⟩ = some (.slice xB x.f2.f1.length xd) := (yaa_ (kB_ hX14 hb) 2).trans rfl
  have q14_3 : w'.cell? ⟨g, 3, none⟩ = some (.int .i64 x.f1.f0) := (yaa_ (kB_ hX14 hb) 3).trans rfl
  have q14_4 : w'.cell? ⟨g, 4, none⟩ = some (.slice xA x.f1.f1.length xc) := (yaa_ (kB_ hX14 hb) 4).trans rfl
  have eg := hd 7 146 _ (by decide) (by kernel_rfl) rfl rfl
  replace eg : T.getD 146 undef = .bool false := eg
  rw [if_pos (yai_ 7 146 false rfl rfl eg)]
  clear eg
  clear hd hB
  go_simp
  exact hK _ (Below.refl _ _)
 refine DetR.cons (o := { dst := some 148, op := Op.call { callee := Callee.value (Operand.func 68), args := #[Operand.tmp 147], argTypes := #[78] }, type := 85, pos := "law.go:143", after := #[{ on := 8, ground := Ground.data }, { on := 7, ground := Ground.chain }, { on := 7, ground := Ground.guard }], guard := some (7, false) }) (OneTold) rfl (by decide) (OneTold.grows') (fun T w' hb hd hB K hK => ?sx78) ?rx78
 case sx78 =>
  have e147 := hd 8 147 _ (by decide) (by kernel_rfl) rfl rfl
  replace e147 : T.getD 147 undef = _ := e147
  have eg := hd 7 146 _ (by decide) (by kernel_rfl) rfl rfl
  replace eg : T.getD 146 undef = .bool false := eg
  rw [if_pos (yai_ 7 146 false rfl rfl eg)]
  clear eg
  have hcl := hF9 w' hb
  clear hd hB
  go_simp
  go_at_call 68
  refine hcl.mono ?_
  rintro e w2 ⟨u, rfl, h1, h2⟩
  exact hK _ _ h2 h1
 refine DetR.is (o := { dst := some 149, op := Op.call { callee := Callee.builtin Builtin.len, args := #[Operand.tmp 148], argTypes := #[85] }, type := 3, pos := "law.go:143", after := #[{ on := 9, ground := Ground.data }, { on := 7, ground := Ground.guard }], guard := some (7, false) }) (u := .int .i64 1) rfl (by decide) (fun T w' hb hd hB K hK => ?sx79) ?rx79
 case sx79 =>
  obtain ⟨g148, e148⟩ := (hd 9 148 _ (by decide) (by kernel_rfl) rfl rfl)
  have eg := hd 7 146 _ (by decide) (by kernel_rfl) rfl rfl
  replace eg : T.getD 146 undef = .bool false := eg
  rw [if_pos (yai_ 7 146 false rfl rfl eg)]
  clear eg
  clear hd hB
  go_simp
  exact hK _ (Below.refl _ _)
 refine DetR.is (o := { dst := some 150, op := Op.binOp BinOp.neq 3 (Operand.tmp 149) (Operand.const (Value.int IntKind.i64 1)) 3, type := 4, pos := "law.go:143", after := #[{ on := 10, ground := Ground.data }, { on := 7, ground := Ground.guard }], guard := some (7, false) }) (u := .bool false) rfl (by decide) (fun T w' hb hd hB K hK => ?sx80) ?rx80
 case sx80 =>
  have e149 := hd 10 149 _ (by decide) (by kernel_rfl) rfl rfl
  replace e149 : T.getD 149 undef = _ := e149
  have eg := hd 7 146 _ (by decide) (by kernel_rfl) rfl rfl
  replace eg : T.getD 146 undef = .bool false := eg
  rw [if_pos (yai_ 7 146 false rfl rfl eg)]
  clear eg
  clear hd hB
  go_simp
  exact hK _ (Below.refl _ _)
 refine DetR.is (o := { dst := some 151, op := Op.pick (Operand.tmp 146) (Operand.const (Value.bool true)) (Operand.tmp 150), type := 4, pos := "law.go:143", after := #[{ on := 7, ground := Ground.data }, { on := 11, ground := Ground.data }], guard := none }) (u := .bool false) rfl (by decide) (fun T w' hb hd hB K hK => ?sx81) ?rx81
 case sx81 =>
  have e146 := hd 7 146 _ (by decide) (by kernel_rfl) rfl rfl
  replace e146 : T.getD 146 undef = _ := e146
  have e150 := hd 11 150 _ (by decide) (by kernel_rfl) rfl rfl
  replace e150 : T.getD 150 undef = _ := e150
  rw [if_pos (yac_ _ rfl)]
  clear hd hB
  go_simp
  exact hK _ (Below.refl _ _)
 refine DetR.is (o := { dst := some 152, op := Op.move (Operand.tmp 151), type := 4, pos := "law.go:143", after := #[{ on := 12, ground := Ground.data }, { on := 9, ground := Ground.chain }], guard := none }) (u := .bool false) rfl (by decide) (fun T w' hb hd hB K hK => ?sx82) ?rx82
 case sx82 =>
  have e151 := hd 12 151 _ (by decide) (by kernel_rfl) rfl rfl
  replace e151 : T.getD 151 undef = _ := e151
  rw [if_pos (yac_ _ rfl)]
  clear hd hB
  go_simp
  exact hK _ (Below.refl _ _)
 refine DetR.is (o := { dst := some 153, op := Op.move (Operand.tmp 5), type := 68, pos := "law.go:143", after := #[{ on := 13, ground := Ground.guard }], guard := some (13, false) }) (u := ?ux83) rfl (by decide) (fun T w' hb hd hB K hK => ?sx83) ?rx83
 case sx83 =>
  have e5 := (hB 5 (by kernel_rfl)).trans hT5
  have eg := hd 13 152 _ (by decide) (by kernel_rfl) rfl rfl
  replace eg : T.getD 152 undef = .bool false := eg
  rw [if_pos (yai_ 13 152 false rfl rfl eg)]
  clear eg
  clear hd hB
  go_simp
  exact hK _ (Below.refl _ _)
 refine DetR.is (o := { dst := some 154, op := Op.move (Operand.tmp 12), type := 3, pos := "law.go:143", after := #[{ on := 13, ground := Ground.guard }], guard := some (13, false) }) (u := ?ux84) rfl (by decide) (fun T w' hb hd hB K hK => ?sx84) ?rx84
 case sx84 =>
  have e12 := (hB 12 (by kernel_rfl)).trans hT12
  have eg := hd 13 152 _ (by decide) (by kernel_rfl) rfl rfl
  replace eg : T.getD 152 undef = .bool false := eg
  rw [if_pos (yai_ 13 152 false rfl rfl eg)]
  clear eg
  clear hd hB
  go_simp
  exact hK _ (Below.refl _ _)
 refine DetR.is (o := { dst := some 155, op := Op.indexAddr 68 (Operand.tmp 153) (Operand.tmp 154), type := 0, pos := "law.go:143", after := #[{ on := 14, ground := Ground.data }, { on := 15, ground := Ground.data }, { on := 13, ground := Ground.guard }], guard := some (13, false) }) (u := .pointer (some (ad.add (i * 5)))) rfl (by decide) (fun T w' hb hd hB K hK => ?sx85) ?rx85
 case sx85 =>
  have e153 := hd 14 153 _ (by decide) (by kernel_rfl) rfl rfl
  replace e153 : T.getD 153 undef = _ := e153
  have e154 := hd 15 154 _ (by decide) (by kernel_rfl) rfl rfl
  replace e154 : T.getD 154 undef = _ := e154
  have eg := hd 13 152 _ (by decide) (by kernel_rfl) rfl rfl
  replace eg : T.getD 152 undef = .bool false := eg
  rw [if_pos (yai_ 13 152 false rfl rfl eg)]
  clear eg
  clear hd hB
  go_simp
  exact hK _ (Below.refl _ _)
 refine DetR.is (o := { dst := some 156, op := Op.load 78 (Operand.tmp 155), type := 78, pos := "law.go:143", after := #[{ on := 16, ground := Ground.data }, { on := 13, ground := Ground.guard }], guard := some (13, false) }) (u := .agg #[.bool x.f0, .int .i64 x.f1.f0, .slice xA x.f1.f1.length xc, .int .i64 x.f2.f0, .slice xB x.f2.f1.length xd]) rfl (by decide) (fun T w' hb hd hB K hK => ?sx86) ?rx86
 case sx86 =>
  have e155 := hd 16 155 _ (by decide) (by kernel_rfl) rfl rfl
  replace e155 : T.getD 155 undef = _ := e155
  have eg := hd 13 152 _ (by decide) (by kernel_rfl) rfl rfl
  replace eg : T.getD 152 undef = .bool false := eg
  rw [if_pos (yai_ 13 152 false rfl rfl eg)]
  clear eg
  have r0 := yad_ hb hx0
  have r1 := yad_ hb hx1
  have r2 := yad_ hb hx2
  have r3 := yad_ hb hx3
  have r4 := yad_ hb hx4
  clear hd hB
  go_simp
  exact hK _ (Below.refl _ _)
 refine DetR.is (o := { dst := some 157, op := Op.load 78 (Operand.tmp 14), type := 78, pos := "law.go:143", after := #[{ on := 13, ground := Ground.guard }], guard := some (13, false) }) (u := .agg #[.bool x.f0, .int .i64 x.f2.f0, .slice xB x.f2.f1.length xd, .int .i64 x.f1.f0, .slice xA x.f1.f1.length xc]) rfl (by decide) (fun T w' hb hd hB K hK => ?sx87) ?rx87
 case sx87 =>
  have e14 := (hB 14 (by kernel_rfl)).trans hT14
  have q14_0 : w'.cell? ⟨g, 0, none⟩ = some (.bool x.f0) := (yaa_ (kB_ hX14 hb) 0).trans rfl
  have q14_1 : w'.cell? ⟨g, 1, none⟩ = some (.int .i64 x.f2.f0) := (yaa_ (kB_ hX14 hb) 1).trans rfl
  have q14_2 : w'.cell? ⟨g, 2, none⟩ = some (.slice xB x.f2.f1.length xd) := (yaa_ (kB_ hX14 hb) 2).trans rfl
  have q14_3 : w'.cell? ⟨g, 3, none⟩ = some (.int .i64 x.f1.f0) := (yaa_ (kB_ hX14 hb) 3).trans rfl
  have q14_4 : w'.cell? ⟨g, 4, none⟩ = some (.slice xA x.f1.f1.length xc) := (yaa_ (kB_ hX14 hb) 4).trans rfl
  have eg := hd 13 152 _ (by decide) (by kernel_rfl) rfl rfl
  replace eg : T.getD 152 undef = .bool false := eg
  rw [if_pos (yai_ 13 152 false rfl rfl eg)]
  clear eg
  clear hd hB
  go_simp
  exact hK _ (Below.refl _ _)
 refine DetR.is (o := { dst := some 158, op := Op.call { callee := Callee.value (Operand.func 66), args := #[Operand.tmp 156, Operand.tmp 157], argTypes := #[78, 78] }, type := 4, pos := "law.go:143", after := #[{ on := 17, ground := Ground.data }, { on := 18, ground := Ground.data }, { on := 13, ground := Ground.chain }, { on := 13, ground := Ground.guard }], guard := some (13, false) }) (u := .bool false) rfl (by decide) (fun T w' hb hd hB K hK => ?sx88) ?rx88
 case sx88 =>
  have e156 := hd 17 156 _ (by decide) (by kernel_rfl) rfl rfl
  replace e156 : T.getD 156 undef = _ := e156
  have e157 := hd 18 157 _ (by decide) (by kernel_rfl) rfl rfl
  replace e157 : T.getD 157 undef = _ := e157
  have eg := hd 13 152 _ (by decide) (by kernel_rfl) rfl rfl
  replace eg : T.getD 152 undef = .bool false := eg
  rw [if_pos (yai_ 13 152 false rfl rfl eg)]
  clear eg
  have hcl := hF19 w' hb
  clear hd hB
  go_simp
  go_at_call 66
  refine hcl.mono ?_
  rintro e w2 ⟨rfl, h2⟩
  exact hK _ h2
 refine DetR.is (o := { dst := some 159, op := Op.pick (Operand.tmp 152) (Operand.const (Value.bool true)) (Operand.tmp 158), type := 4, pos := "law.go:143", after := #[{ on := 13, ground := Ground.data }, { on := 19, ground := Ground.data }], guard := none }) (u := .bool false) rfl (by decide) (fun T w' hb hd hB K hK => ?sx89) ?rx89
 case sx89 =>
  have e152 := hd 13 152 _ (by decide) (by kernel_rfl) rfl rfl
  replace e152 : T.getD 152 undef = _ := e152
  have e158 := hd 19 158 _ (by decide) (by kernel_rfl) rfl rfl
  replace e158 : T.getD 158 undef = _ := e158
  rw [if_pos (yac_ _ rfl)]
  clear hd hB
  go_simp
  exact hK _ (Below.refl _ _)
 refine DetR.done [some 139, some 140, some 141, some 142, some 143, some 144, some 145, some 146, some 147, some 148, some 149, some 150, some 151, some 152, some 153, some 154, some 155, some 156, some 157, some 158, some 159] (by kernel_rfl) rfl (by kernel_rfl) ?_
 intro v w' hb hv
 exact hK v w' hb (hv 20 _ (by decide) rfl)
set_option maxHeartbeats 4000000 in
set_option maxRecDepth 100000 in
theorem OrderAtoms_r29 {id : Nat} {a : Act} {w : World} {Q : Exit → Act → World → Prop} {ad : Addr} {ln cc i : Nat} {x : S78} {xA xB : Option Addr} {xc xd : Nat}
  (hr : regionOk #[{ dst := some 123, op := Op.move (Operand.tmp 5), type := 68, pos := "law.go:142", after := #[], guard := none }, { dst := some 124, op := Op.move (Operand.tmp 12), type := 3, pos := "law.go:142", after := #[], guard := none }, { dst := some 125, op := Op.indexAddr 68 (Operand.tmp 123) (Operand.tmp 124), type := 0, pos := "law.go:142", after := #[{ on := 0, ground := Ground.data }, { on := 1, ground := Ground.data }], guard := none }, { dst := some 126, op := Op.fieldAddr 78 (Operand.tmp 125) 0, type := 0, pos := "law.go:142", after := #[{ on := 2, ground := Ground.data }], guard := none }, { dst := some 127, op := Op.load 4 (Operand.tmp 126), type := 4, pos := "law.go:142", after := #[{ on := 3, ground := Ground.data }], guard := none }, { dst := some 128, op := Op.move (Operand.tmp 5), type := 68, pos := "law.go:142", after := #[], guard := none }, { dst := some 129, op := Op.move (Operand.tmp 12), type := 3, pos := "law.go:142", after := #[], guard := none }, { dst := some 130, op := Op.indexAddr 68 (Operand.tmp 128) (Operand.tmp 129), type := 0, pos := "law.go:142", after := #[{ on := 5, ground := Ground.data }, { on := 6, ground := Ground.data }], guard := none }, { dst := some 131, op := Op.fieldAddr 78 (Operand.tmp 130) 2, type := 0, pos := "law.go:142", after := #[{ on := 7, ground := Ground.data }], guard := none }, { dst := some 132, op := Op.load 30 (Operand.tmp 131), type := 30, pos := "law.go:142", after := #[{ on := 8, ground := Ground.data }], guard := none }, { dst := some 133, op := Op.move (Operand.tmp 5), type := 68, pos := "law.go:142", after := #[], guard := none }, { dst := some 134, op := Op.move (Operand.tmp 12), type := 3, pos := "law.go:142", after := #[], guard := none }, { dst := some 135, op := Op.indexAddr 68 (Operand.tmp 133) (Operand.tmp 134), type := 0, pos := "law.go:142", after := #[{ on := 10, ground := Ground.data }, { on := 11, ground := Ground.data }], guard := none }, { dst := some 136, op := Op.fieldAddr 78 (Operand.tmp 135) 1, type := 0, pos := "law.go:142", after := #[{ on := 12, ground := Ground.data }], guard := none }, { dst := some 137, op := Op.load 30 (Operand.tmp 136), type := 30, pos := "law.go:142", after := #[{ on := 13, ground := Ground.data }], guard := none }, { dst := some 138, op := Op.build 78 #[(0, Operand.tmp 127), (1, Operand.tmp 132), (2, Operand.tmp 137)], type := 78, pos := "law.go:142", after := #[{ on := 4, ground := Ground.data }, { on := 9, ground := Ground.data }, { on := 14, ground := Ground.data }], guard := none }, { dst := some 14, op := Op.alloc 78, type := 0, pos := "law.go:142", after := #[], guard := none }, { dst := none, op := Op.store 78 (Operand.tmp 14) (Operand.tmp 138), type := 0, pos := "law.go:142", after := #[{ on := 16, ground := Ground.data }, { on := 15, ground := Ground.data }, { on := 0, ground := Ground.phase }, { on := 1, ground := Ground.phase }, { on := 2, ground := Ground.phase }, { on := 3, ground := Ground.phase }, { on := 4, ground := Ground.phase }, { on := 5, ground := Ground.phase }, { on := 6, ground := Ground.phase }, { on := 7, ground := Ground.phase }, { on := 8, ground := Ground.phase }, { on := 9, ground := Ground.phase }, { on := 10, ground := Ground.phase }, { on := 11, ground := Ground.phase }, { on := 12, ground := Ground.phase }, { on := 13, ground := Ground.phase }, { on := 14, ground := Ground.phase }, { on := 15, ground := Ground.phase }, { on := 16, ground := Ground.phase }], guard := none }] a.tmps.size = true)
  (hT5 : a.tmps.getD 5 undef = .slice (some ad) ln cc)
  (hT12 : a.tmps.getD 12 undef = .int .i64 (i : Int))
  (hi : i < ln) (hlc : ln ≤ cc)
  (hx0 : w.cell? (ad.add (i * 5)) = some (.bool x.f0))
  (hx1 : w.cell? ⟨(ad.add (i * 5)).block, (ad.add (i * 5)).off + 1, none⟩ = some (.int .i64 x.f1.f0))
  (hx2 : w.cell? ⟨(ad.add (i * 5)).block, (ad.add (i * 5)).off + 2, none⟩ = some (.slice xA x.f1.f1.length xc))
  (hx3 : w.cell? ⟨(ad.add (i * 5)).block, (ad.add (i * 5)).off + 3, none⟩ = some (.int .i64 x.f2.f0))
  (hx4 : w.cell? ⟨(ad.add (i * 5)).block, (ad.add (i * 5)).off + 4, none⟩ = some (.slice xB x.f2.f1.length xd))
  (hQ : ∀ v w' g, v 16 = .pointer (some ⟨g, 0, none⟩) → w.heap.size ≤ g → w'.heap[g]? = some (.cells #[.bool x.f0, .int .i64 x.f2.f0, .slice xB x.f2.f1.length xd, .int .i64 x.f1.f0, .slice xA x.f1.f1.length xc] 78 (0, 0)) → Below w.heap.size w w' → Q .normal { tmps := layL [some 123, some 124, some 125, some 126, some 127, some 128, some 129, some 130, some 131, some 132, some 133, some 134, some 135, some 136, some 137, some 138, some 14, none] 0 v a.tmps, defers := a.defers } w') :
  (Code.region id #[{ dst := some 123, op := Op.move (Operand.tmp 5), type := 68, pos := "law.go:142", after := #[], guard := none }, { dst := some 124, op := Op.move (Operand.tmp 12), type := 3, pos := "law.go:142", after := #[], guard := none }, { dst := some 125, op := Op.indexAddr 68 (Operand.tmp 123) (Operand.tmp 124), type := 0, pos := "law.go:142", after := #[{ on := 0, ground := Ground.data }, { on := 1, ground := Ground.data }], guard := none }, { dst := some 126, op := Op.fieldAddr 78 (Operand.tmp 125) 0, type := 0, pos := "law.go:142", after := #[{ on := 2, ground := Ground.data }], guard := none }, { dst := some 127, op := Op.load 4 (Operand.tmp 126), type := 4, pos := "law.go:142", after := #[{ on := 3, ground := Ground.data }], guard := none }, { dst := some 128, op := Op.move (Operand.tmp 5), type := 68, pos := "law.go:142", after := #[], guard := none }, { dst := some 129, op := Op.move (Operand.tmp 12), type := 3, pos := "law.go:142", after := #[], guard := none }, { dst := some 130, op := Op.indexAddr 68 (Operand.tmp 128) (Operand.tmp 129), type := 0, pos := "law.go:142", after := #[{ on := 5, ground := Ground.data }, { on := 6, ground := Ground.data }], guard := none }, { dst := some 131, op := Op.fieldAddr 78 (Operand.tmp 130) 2, type := 0, pos := "law.go:142", after := #[{ on := 7, ground := Ground.data }], guard := none }, { dst := some 132, op := Op.load 30 (Operand.tmp 131), type := 30, pos := "law.go:142", after := #[{ on := 8, ground := Ground.data }], guard := none }, { dst := some 133, op := Op.move (Operand.tmp 5), type := 68, pos := "law.go:142", after := #[], guard := none }, { dst := some 134, op := Op.move (Operand.tmp 12), type := 3, pos := "law.go:142", after := #[], guard := none }, { dst := some 135, op := Op.indexAddr 68 (Operand.tmp 133) (Operand.tmp 134), type := 0, pos := "law.go:142", after := #[{ on := 10, ground := Ground.data }, { on := 11, ground := Ground.data }], guard := none }, { dst := some 136, op := Op.fieldAddr 78 (Operand.tmp 135) 1, type := 0, pos := "law.go:142", after := #[{ on := 12, ground := Ground.data }], guard := none }, { dst := some 137, op := Op.load 30 (Operand.tmp 136), type := 30, pos := "law.go:142", after := #[{ on := 13, ground := Ground.data }], guard := none }, { dst := some 138, op := Op.build 78 #[(0, Operand.tmp 127), (1, Operand.tmp 132), (2, Operand.tmp 137)], type := 78, pos := "law.go:142", after := #[{ on := 4, ground := Ground.data }, { on := 9, ground := Ground.data }, { on := 14, ground := Ground.data }], guard := none }, { dst := some 14, op := Op.alloc 78, type := 0, pos := "law.go:142", after := #[], guard := none }, { dst := none, op := Op.store 78 (Operand.tmp 14) (Operand.tmp 138), type := 0, pos := "law.go:142", after := #[{ on := 16, ground := Ground.data }, { on := 15, ground := Ground.data }, { on := 0, ground := Ground.phase }, { on := 1, ground := Ground.phase }, { on := 2, ground := Ground.phase }, { on := 3, ground := Ground.phase }, { on := 4, ground := Ground.phase }, { on := 5, ground := Ground.phase }, { on := 6, ground := Ground.phase }, { on := 7, ground := Ground.phase }, { on := 8, ground := Ground.phase }, { on := 9, ground := Ground.phase }, { on := 10, ground := Ground.phase }, { on := 11, ground := Ground.phase }, { on := 12, ground := Ground.phase }, { on := 13, ground := Ground.phase }, { on := 14, ground := Ground.phase }, { on := 15, ground := Ground.phase }, { on := 16, ground := Ground.phase }], guard := none }] true).wp Try.prog Q a w := by
 have hmx : Try.prog.follows .mixedOrders = true := by kernel_rfl
 have hJo : ∀ i, i ∉ [16, 17] → ∀ v d (w1 w2 : World) u, (Boxes w.heap.size #[.bool false, .int .i64 0, .slice none 0 0, .int .i64 0, .slice none 0 0] 78 [⟨16, 17, 15⟩]) v d w1 → d i = false → Below w1.heap.size w1 w2 → (Boxes w.heap.size #[.bool false, .int .i64 0, .slice none 0 0, .int .i64 0, .slice none 0 0] 78 [⟨16, 17, 15⟩]) (upd v i u) (upd d i true) w2 := fun i hi v d w1 w2 u h hd hb => Boxes.other i (show i ∉ Boxes.ids [⟨16, 17, 15⟩] from hi) v d w1 w2 u h hd hb
 refine region_detJ (fun _ _ => True) (Boxes w.heap.size #[.bool false, .int .i64 0, .slice none 0 0, .int .i64 0, .slice none 0 0] 78 [⟨16, 17, 15⟩]) 18 (trivial) (fun v => Boxes.start _ _ _ _ v _) hmx hr rfl ?_
 refine DetJ.is (o := { dst := some 123, op := Op.move (Operand.tmp 5), type := 68, pos := "law.go:142", after := #[], guard := none }) (u := ?ux90) (fun _ _ _ => trivial) [16, 17] hJo rfl (by decide) (by decide) (fun T w' hb hd hB K hK => ?sx90) ?rx90
 case sx90 =>
  have e5 := (hB 5 (by kernel_rfl)).trans hT5
  rw [if_pos (yac_ _ rfl)]
  clear hd hB
  go_simp
  exact hK _ (Below.refl _ _)
 refine DetJ.is (o := { dst := some 124, op := Op.move (Operand.tmp 12), type := 3, pos := "law.go:142", after := #[], guard := none }) (u := ?ux91) (fun _ _ _ => trivial) [16, 17] hJo rfl (by decide) (by decide) (fun T w' hb hd hB K hK => ?sx91) ?rx91
 case sx91 =>
  have e12 := (hB 12 (by kernel_rfl)).trans hT12
  rw [if_pos (yac_ _ rfl)]
  clear hd hB
  go_simp
  exact hK _ (Below.refl _ _)
 refine DetJ.is (o := { dst := some 125, op := Op.indexAddr 68 (Operand.tmp 123) (Operand.tmp 124), type := 0, pos := "law.go:142", after := #[{ on := 0, ground := Ground.data }, { on := 1, ground := Ground.data }], guard := none }) (u := .pointer (some (ad.add (i * 5)))) (fun _ _ _ => trivial) [16, 17] hJo rfl (by decide) (by decide) (fun T w' hb hd hB K hK => ?sx92) ?rx92
 case sx92 =>
  have e123 := hd 0 123 _ (by decide) (by kernel_rfl) rfl rfl
  replace e123 : T.getD 123 undef = _ := e123
  have e124 := hd 1 124 _ (by decide) (by kernel_rfl) rfl rfl
  replace e124 : T.getD 124 undef = _ := e124
  rw [if_pos (yac_ _ rfl)]
  clear hd hB
  go_simp
  exact hK _ (Below.refl _ _)
 refine DetJ.is (o := { dst := some 126, op := Op.fieldAddr 78 (Operand.tmp 125) 0, type := 0, pos := "law.go:142", after := #[{ on := 2, ground := Ground.data }], guard := none }) (u := .pointer (some (ad.add (i * 5)))) (fun _ _ _ => trivial) [16, 17] hJo rfl (by decide) (by decide) (fun T w' hb hd hB K hK => ?sx93) ?rx93
 case sx93 =>
  have e125 := hd 2 125 _ (by decide) (by kernel_rfl) rfl rfl
  replace e125 : T.getD 125 undef = _ := e125
  rw [if_pos (yac_ _ rfl)]
  clear hd hB
  go_simp
  exact hK _ (Below.refl _ _)
 refine DetJ.is (o := { dst := some 127, op := Op.load 4 (Operand.tmp 126), type := 4, pos := "law.go:142", after := #[{ on := 3, ground := Ground.data }], guard := none }) (u := .bool x.f0) (fun _ _ _ => trivial) [16, 17] hJo rfl (by decide) (by decide) (fun T w' hb hd hB K hK => ?sx94) ?rx94
 case sx94 =>
  have e126 := hd 3 126 _ (by decide) (by kernel_rfl) rfl rfl
  replace e126 : T.getD 126 undef = _ := e126
  rw [if_pos (yac_ _ rfl)]
  have r0 := yad_ hb hx0
  clear hd hB
  go_simp
  exact hK _ (Below.refl _ _)
 refine DetJ.is (o := { dst := some 128, op := Op.move (Operand.tmp 5), type := 68, pos := "law.go:142", after := #[], guard := none }) (u := ?ux95) (fun _ _ _ => trivial) [16, 17] hJo rfl (by decide) (by decide) (fun T w' hb hd hB K hK => ?sx95) ?rx95
 case sx95 =>
  have e5 := (hB 5 (by kernel_rfl)).trans hT5
  rw [if_pos (yac_ _ rfl)]
  clear hd hB
  go_simp
  exact hK _ (Below.refl _ _)
 refine DetJ.is (o := { dst := some 129, op := Op.move (Operand.tmp 12), type := 3, pos := "law.go:142", after := #[], guard := none }) (u := ?ux96) (fun _ _ _ => trivial) [16, 17] hJo rfl (by decide) (by decide) (fun T w' hb hd hB K hK => ?sx96) ?rx96
 case sx96 =>
  have e12 := (hB 12 (by kernel_rfl)).trans hT12
  rw [if_pos (yac_ _ rfl)]
  clear hd hB
  go_simp
  exact hK _ (Below.refl _ _)
 refine DetJ.is (o := { dst := some 130, op := Op.indexAddr 68 (Operand.tmp 128) (Operand.tmp 129), type := 0, pos := "law.go:142", after := #[{ on := 5, ground := Ground.data }, { on := 6, ground := Ground.data }], guard := none }) (u := .pointer (some (ad.add (i * 5)))) (fun _ _ _ => trivial) [16, 17] hJo rfl (by decide) (by decide) (fun T w' hb hd hB K hK => ?sx97) ?rx97
 case sx97 =>
  have e128 := hd 5 128 _ (by decide) (by kernel_rfl) rfl rfl
  replace e128 : T.getD 128 undef = _ := e128
  have e129 := hd 6 129 _ (by decide) (by kernel_rfl) rfl rfl
  replace e129 : T.getD 129 undef = _ := e129
  rw [if_pos (yac_ _ rfl)]
  clear hd hB
  go_simp
  exact hK _ (Below.refl _ _)
 refine DetJ.is (o := { dst := some 131, op := Op.fieldAddr 78 (Operand.tmp 130) 2, type := 0, pos := "law.go:142", after := #[{ on := 7, ground := Ground.data }], guard := none }) (u := .pointer (some ⟨(ad.add (i * 5)).block, (ad.add (i * 5)).off + 3, none⟩)) (fun _ _ _ => trivial) [16, 17] hJo rfl (by decide) (by decide) (fun T w' hb hd hB K hK => ?sx98) ?rx98
 case sx98 =>
  have e130 := hd 7 130 _ (by decide) (by kernel_rfl) rfl rfl
  replace e130 : T.getD 130 undef = _ := e130
  rw [if_pos (yac_ _ rfl)]
  clear hd hB
  go_simp
  exact hK _ (Below.refl _ _)
 refine DetJ.is (o := { dst := some 132, op := Op.load 30 (Operand.tmp 131), type := 30, pos := "law.go:142", after := #[{ on := 8, ground := Ground.data }], guard := none }) (u := .agg #[.int .i64 x.f2.f0, .slice xB x.f2.f1.length xd]) (fun _ _ _ => trivial) [16, 17] hJo rfl (by decide) (by decide) (fun T w' hb hd hB K hK => ?sx99) ?rx99
 case sx99 =>
  have e131 := hd 8 131 _ (by decide) (by kernel_rfl) rfl rfl
  replace e131 : T.getD 131 undef = _ := e131
  rw [if_pos (yac_ _ rfl)]
  have r3 := yad_ hb hx3
  have r4 := yad_ hb hx4
  clear hd hB
  go_simp
  exact hK _ (Below.refl _ _)
 refine DetJ.is (o := { dst := some 133, op := Op.move (Operand.tmp 5), type := 68, pos := "law.go:142", after := #[], guard := none }) (u := ?ux100) (fun _ _ _ => trivial) [16, 17] hJo rfl (by decide) (by decide) (fun T w' hb hd hB K hK => ?sx100) ?rx100
 case sx100 =>
  have e5 := (hB 5 (by kernel_rfl)).trans hT5
  rw [if_pos (yac_ _ rfl)]
  clear hd hB
  go_simp
  exact hK _ (Below.refl _ _)
 refine DetJ.is (o := { dst := some 134, op := Op.move (Operand.tmp 12), type := 3, pos := "law.go:142", after := #[], guard := none }) (u := ?ux101) (fun _ _ _ => trivial) [16, 17] hJo rfl (by decide) (by decide) (fun T w' hb hd hB K hK => ?sx101) ?rx101
 case sx101 =>
  have e12 := (hB 12 (by kernel_rfl)).trans hT12
  rw [if_pos (yac_ _ rfl)]
  clear hd hB
  go_simp
  exact hK _ (Below.refl _ _)
 refine DetJ.is (o := { dst := some 135, op := Op.indexAddr 68 (Operand.tmp 133) (Operand.tmp 134), type := 0, pos := "law.go:142", after := #[{ on := 10, ground := Ground.data }, { on := 11, ground := Ground.data }], guard := none }) (u := .pointer (some (ad.add (i * 5)))) (fun _ _ _ => trivial) [16, 17] hJo rfl (by decide) (by decide) (fun T w' hb hd hB K hK => ?sx102) ?rx102
 case sx102 =>
  have e133 := hd 10 133 _ (by decide) (by kernel_rfl) rfl rfl
  replace e133 : T.getD 133 undef = _ := e133
  have e134 := hd 11 134 _ (by decide) (by kernel_rfl) rfl rfl
  replace e134 : T.getD 134 undef = _ := e134
  rw [if_pos (yac_ _ rfl)]
  clear hd hB
  go_simp
  exact hK _ (Below.refl _ _)
 refine DetJ.is (o := { dst := some 136, op := Op.fieldAddr 78 (Operand.tmp 135) 1, type := 0, pos := "law.go:142", after := #[{ on := 12, ground := Ground.data }], guard := none }) (u := .pointer (some ⟨(ad.add (i * 5)).block, (ad.add (i * 5)).off + 1, none⟩)) (fun _ _ _ => trivial) [16, 17] hJo rfl (by decide) (by decide) (fun T w' hb hd hB K hK => ?sx103) ?rx103
 case sx103 =>
  have e135 := hd 12 135 _ (by decide) (by kernel_rfl) rfl rfl
  replace e135 : T.getD 135 undef = _ := e135
  rw [if_pos (yac_ _ rfl)]
  clear hd hB
  go_simp
  exact hK _ (Below.refl _ _)
 refine DetJ.is (o := { dst := some 137, op := Op.load 30 (Operand.tmp 136), type := 30, pos := "law.go:142", after := #[{ on := 13, ground := Ground.data }], guard := none }) (u := .agg #[.int .i64 x.f1.f0, .slice xA x.f1.f1.length xc]) (fun _ _ _ => trivial) [16, 17] hJo rfl (by decide) (by decide) (fun T w' hb hd hB K hK => ?sx104) ?rx104
 case sx104 =>
  have e136 := hd 13 136 _ (by decide) (by kernel_rfl) rfl rfl
  replace e136 : T.getD 136 undef = _ := e136
  rw [if_pos (yac_ _ rfl)]
  have r1 := yad_ hb hx1
  have r2 := yad_ hb hx2
  clear hd hB
  go_simp
  exact hK _ (Below.refl _ _)
 refine DetJ.is (o := { dst := some 138, op := Op.build 78 #[(0, Operand.tmp 127), (1, Operand.tmp 132), (2, Operand.tmp 137)], type := 78, pos := "law.go:142", after := #[{ on := 4, ground := Ground.data }, { on := 9, ground := Ground.data }, { on := 14, ground := Ground.data }], guard := none }) (u := .agg #[.bool x.f0, .int .i64 x.f2.f0, .slice xB x.f2.f1.length xd, .int .i64 x.f1.f0, .slice xA x.f1.f1.length xc]) (fun _ _ _ => trivial) [16, 17] hJo rfl (by decide) (by decide) (fun T w' hb hd hB K hK => ?sx105) ?rx105
 case sx105 =>
  have e127 := hd 4 127 _ (by decide) (by kernel_rfl) rfl rfl
  replace e127 : T.getD 127 undef = _ := e127
  have z127 : T[127]?.getD undef = _ := Array.getD_eq_getD_getElem?.symm.trans e127
  have e132 := hd 9 132 _ (by decide) (by kernel_rfl) rfl rfl
  replace e132 : T.getD 132 undef = _ := e132
  have z132 : T[132]?.getD undef = _ := Array.getD_eq_getD_getElem?.symm.trans e132
  have e137 := hd 14 137 _ (by decide) (by kernel_rfl) rfl rfl
  replace e137 : T.getD 137 undef = _ := e137
  have z137 : T[137]?.getD undef = _ := Array.getD_eq_getD_getElem?.symm.trans e137
  rw [if_pos (yac_ _ rfl)]
  clear hd hB
  go_simp
  exact hK _ (Below.refl _ _)
 refine DetJ.cons (o := { dst := some 14, op := Op.alloc 78, type := 0, pos := "law.go:142", after := #[], guard := none }) (fun _ _ => True) rfl (by decide) (fun _ _ _ _ _ => trivial) (fun v d T w' hb hj hd0 hd hdd hB K hK => ?sx106) ?rx106
 case sx106 =>
  rw [if_pos (yac_ _ rfl)]
  clear hd hdd hB
  go_simp
  exact hK _ _ trivial (bA_ hb _) trivial (Boxes.alloc 16 (by decide) (by decide) v d w' hj hd0 hb.size)
 refine DetJ.cons (o := { dst := none, op := Op.store 78 (Operand.tmp 14) (Operand.tmp 138), type := 0, pos := "law.go:142", after := #[{ on := 16, ground := Ground.data }, { on := 15, ground := Ground.data }, { on := 0, ground := Ground.phase }, { on := 1, ground := Ground.phase }, { on := 2, ground := Ground.phase }, { on := 3, ground := Ground.phase }, { on := 4, ground := Ground.phase }, { on := 5, ground := Ground.phase }, { on := 6, ground := Ground.phase }, { on := 7, ground := Ground.phase }, { on := 8, ground := Ground.phase }, { on := 9, ground := Ground.phase }, { on := 10, ground := Ground.phase }, { on := 11, ground := Ground.phase }, { on := 12, ground := Ground.phase }, { on := 13, ground := Ground.phase }, { on := 14, ground := Ground.phase }, { on := 15, ground := Ground.phase }, { on := 16, ground := Ground.phase }], guard := none }) (fun _ _ => True) rfl (by decide) (fun _ _ _ _ _ => trivial) (fun v d T w' hb hj hd0 hd hdd hB K hK => ?sx107) ?rx107
 case sx107 =>
  have e14 := (hdd 16 (by kernel_rfl)).2 14 rfl
  have e138 := hd 15 138 _ (by decide) (by kernel_rfl) rfl rfl
  replace e138 : T.getD 138 undef = _ := e138
  rw [if_pos (yac_ _ rfl)]
  have ea := (hdd 16 (by kernel_rfl)).1
  have ex := (hdd 15 (by kernel_rfl)).1
  have vx := (hdd 15 (by kernel_rfl)).2 138 rfl
  obtain ⟨g, va, hge, hlt, hbx⟩ := hj.1 ⟨16, 17, 15⟩ (by simp) ea
  rw [if_neg (by rw [show d 17 = false from hd0]; decide)] at hbx
  replace e14 := e14.trans va
  have q0 : w'.cell? ⟨g, 0, none⟩ = some (.bool false) := (yaa_ hbx 0).trans rfl
  have fz0 := yab_ hbx 0
  have q1 : w'.cell? ⟨g, 1, none⟩ = some (.int .i64 0) := (yaa_ hbx 1).trans rfl
  have fz1 := yab_ hbx 1
  have q2 : w'.cell? ⟨g, 2, none⟩ = some (.slice none 0 0) := (yaa_ hbx 2).trans rfl
  have fz2 := yab_ hbx 2
  have q3 : w'.cell? ⟨g, 3, none⟩ = some (.int .i64 0) := (yaa_ hbx 3).trans rfl
  have fz3 := yab_ hbx 3
  have q4 : w'.cell? ⟨g, 4, none⟩ = some (.slice none 0 0) := (yaa_ hbx 4).trans rfl
  have fz4 := yab_ hbx 4
  have hd0' := Az_.mk hd0
  have hev : T.getD 138 undef = .agg #[.bool x.f0, .int .i64 x.f2.f0, .slice xB x.f2.f1.length xd, .int .i64 x.f1.f0, .slice xA x.f1.f1.length xc] := hd 15 138 _ (by decide) (by kernel_rfl) rfl rfl
  have vx' := Az_.mk (vx.symm.trans hev)
  replace e138 := hev
  clear hd hdd hB vx hd0 hev
  go_simp
  refine hK undef _ trivial (((((hb.setCell hge _).setCell hge _).setCell hge _).setCell hge _).setCell hge _) trivial (Boxes.fill ⟨16, 17, 15⟩ (by simp) (by intro b' h; simp at h; subst h; simp) (by decide) (by decide) (by intro b' h; simp at h; subst h; simp) v d w' _ _ g hj ea ex va ?_ (fun k hk => setCell5_far k hk) (by simp [setCell_size]))
  refine (blk_set (blk_set (blk_set (blk_set (blk_set hbx 0 _) 1 _) 2 _) 3 _) 4 _).trans ?_
  show some (Obj.cells _ 78 (0, 0)) = some (Obj.cells (cellsOf (v 15)) 78 (0, 0))
  rw [vx'.out]
  rfl
 refine DetJ.done [some 123, some 124, some 125, some 126, some 127, some 128, some 129, some 130, some 131, some 132, some 133, some 134, some 135, some 136, some 137, some 138, some 14, none] (by kernel_rfl) rfl rfl ?_
 intro v d w' hb hv hall hj
 have f15 := hv 15 _ (by decide) rfl
 obtain ⟨g, fa, hg, _, hbx⟩ := hj.1 ⟨16, 17, 15⟩ (by simp) (hall 16 (by decide))
 rw [if_pos (hall 17 (by decide)), show cellsOf (v 15) = _ from congrArg cellsOf f15] at hbx
 exact hQ v w' g fa hg hbx hb
end
section
theorem one_int {w : World} {base : Nat} {ok : Nat → Prop} {v : Value} {a : Int} (h : (Kd.int .i64).R 3 w base ok v [a]) : ∃ ad c, v = .slice (some ad) 1 c ∧ 1 ≤ c ∧ w.cell? ad = some (.int .i64 a) := by
 obtain ⟨A, c, rfl, hc, hF⟩ := Kd.R_V (base' := 0) h
 obtain ⟨ad, cs, hA, hl, hK, hcell⟩ := Kd.C_get (Kd.F_now hF) 0 0 (by decide) (by simp)
 subst hA
 have hK' : cs = [.int .i64 a] := hK
 subst hK'
 have := hcell 0 _ rfl
 have e0 : ad.add ((0 : Int).toNat * (Kd.int .i64).sz + 0) = ad := by cases ad; simp [Addr.add]
 rw [e0] at this
 exact ⟨ad, c, rfl, hc, this⟩
set_option maxHeartbeats 8000000 in
set_option maxRecDepth 100000 in
theorem OrderAtoms_walk (l : List S24) (neg : Int) (A : Option Addr) (c : Nat) (w : World) (hA : k24.C w A l.length l) (hc : l.length ≤ c) :
  Calls Try.prog 18 #[.slice A l.length c, .int .u16 neg] w fun e w' => e = .returned (.bool true) ∧ Below w.heap.size w w' := by
 have hmx : Try.prog.follows .mixedOrders = true := by kernel_rfl
 obtain ⟨kz, hal⟩ := alive14.rounds
 have hbA : Az_ (∀ w1, Below w.heap.size w w1 → k24.C w1 A l.length l) := ⟨fun w1 h => Kd.C_below hA h⟩
 clear hA
 go_enter Try.func18, Try.ntmps18
 by_cases ha : 5 < l.length
 ·have d0 : decide (5 < (l.length : Int)) = true := decide_eq_true (by omega)
  clear ha
  go_wp2_with (go_at_call 54; refine (soriteslaw14_alive.calls kz true _ hal).mono ?_; rintro e w1 ⟨rfl, hb⟩; have HB1 := Az_.mk hb; clear hb)
  go_ret
  exact ⟨rfl, HB1.out⟩
 have d0 : decide (5 < (l.length : Int)) = false := decide_eq_false (by omega)
 have HAL := Az_.mk ha
 clear ha
 go_wp2_with (go_at_call 54; refine (soriteslaw14_alive.calls kz true _ hal).mono ?_; rintro e w1 ⟨rfl, hb⟩; have HB1 := Az_.mk hb; clear hb)
 clear d0
 go_loopw [5, 6, 7, 8] (fun v hv av i wra => ∃ (u : Value) (k : Nat) (cl : List S78) (hh aa : Int), u = v ∧ k ≤ l.length ∧ hv = .int .i64 hh ∧ av = .int .i64 aa ∧ i = .int .i64 k ∧ Az_ (cl.length = k ∧ (∀ x ∈ cl, AtomLit x) ∧ Hvy cl hh aa) ∧ Az_ (Own78 w1 wra v cl)) (fun v hv av i wra => l.length - (intOf i).toNat)
 case atStart => exact ⟨_, 0, [], 0, -1, rfl, Nat.zero_le _, rfl, rfl, rfl, ⟨rfl, fun x hx => (by simp at hx), .inl ⟨rfl, rfl, fun j hj => (by simp at hj)⟩⟩, ⟨Own78.nil _⟩⟩
 rename World => wra
 obtain ⟨u, k, cl, hh, aa, hu, hk, rfl, rfl, rfl, hs, ho⟩ := hrel
 subst hu
 have hbw := Az_.mk (show Below w.heap.size w wra from HB1.out.trans (ho.out.2.mono HB1.out.size))
 by_cases hlt : k < l.length
 ·obtain ⟨t, ht0⟩ : ∃ t, l[k]? = some t := ⟨_, List.getElem?_eq_getElem hlt⟩
  have ht := Az_.mk ht0
  obtain ⟨r, hr, hr1, hr2, hr3⟩ := Small_spec 9 t 12 8 (by decide) (by decide) (by decide) (by decide)
  obtain ⟨k2, e2⟩ := hr.rounds
  obtain ⟨ad, Bk, ek, hAe, x0, x1, hle, hCk⟩ := term_at (hbA.out _ hbw.out) k t ht0
  subst hAe
  have hcl := Az_.mk (soriteslaw06_Small.calls k2 _ _ _ _ 12 8 r wra hCk hle e2)
  clear hCk hle e2 hr ht0
  by_cases hneg : r < 0
  ·have dn : decide (r < 0) = true := decide_eq_true hneg
   clear hneg hr1 hr2 hr3
   go_wp2_with (go_at_call 50; refine hcl.out.mono ?_; rintro e w3 ⟨rfl, hb⟩; have hB3 := Az_.mk (hbw.out.trans (hb.mono hbw.out.size)); clear hb)
   go_ret
   exact ⟨rfl, hB3.out⟩
  ·have dn : decide (r < 0) = false := decide_eq_false hneg
   have hok := hr3 (by omega)
   have HOK := Az_.mk (And.intro hok.1 (show wt t ≤ 12 by omega))
   obtain ⟨k3, e3⟩ := (Of_spec t hok.1).rounds
   have HOF := Az_.mk e3
   clear hneg hr1 hr2 hr3 hok e3
   go_upto_region 13 with (first | ((with_reducible refine yak_ (N := 9) rfl ?_); refine yaj_ ?hg (N := 9) ?hd (cs := #[.int .i64 0, .slice none 0 0]) (t := 30) ?hr ?_; (case hd => rfl); (case hg => rfl); (case hr => first | (go_simp; done) | (go_simp; rfl)); intro gq hgq w7 hbox hb7; have BK7 := Az_.mk hbox; have HT7 := Az_.mk (show w7.heap[w4.heap.size]? = some (.cells #[.int .i64 t.f0, .slice Ao t.f1.length co] 30 (0, 0)) from kB_ (blk_new w4 _) hb7); have HQ := Az_.mk (show w4.heap.size < gq by rw [hgq]; simp); have HB7 := Az_.mk (show Below w4.heap.size w4 w7 from (bA_ (Below.refl _ _) _).trans (hb7.mono (by simp))); obtain ⟨z0, z1, zf0, zf1⟩ := cz2_ BK7; clear hb7 hbox hgq) | (go_at_call 22; refine (soriteslaw06_Of.calls k3 _ _ _ t.f1 t.f0 t.f1 _ HC'.out.2 HC'.out.1 HOF.out).mono ?_; rintro e w4 ⟨v1, rfl, hR, hb⟩; obtain ⟨Ao, co, rfl, _⟩ := Kd.R_V (base' := 0) hR; have HR4 := Az_.mk hR; have HO4 := Az_.mk (HO3.out.below hb); have HB34 := Az_.mk hb; clear hR hb) | (go_at_call 50; refine hcl.out.mono ?_; rintro e w3 ⟨rfl, hb⟩; have hB3 := Az_.mk (hbw.out.trans (hb.mono hbw.out.size)); have HO3 := Az_.mk (ho.out.below hb); clear hb; obtain ⟨ad', B', e', hAe', y0, y1, hle', hC'⟩ := term_at (hbA.out w3 hB3.out) k t ht.out; injection hAe' with hAe'; subst hAe'; have HC' := Az_.mk (And.intro hle' hC'); clear hle' hC'))
   have n0_ : Az_ (((w7.setCell ⟨gq, 0, none⟩ (.int .i64 20)).setCell ⟨gq, 1, none⟩ (.slice (some ⟨w4.heap.size, 0, none⟩) 1 1)).heap[gq]? = some (.cells #[.int .i64 20, .slice (some ⟨w4.heap.size, 0, none⟩) 1 1] 30 (0, 0))) := ⟨blk_put (cs := #[.int .i64 20, .slice none 0 0]) (blk_put (cs := #[.int .i64 0, .slice none 0 0]) BK7.out 0 _ rfl) 1 _ rfl⟩
   have n1_ : Az_ (Below w4.heap.size w4 ((w7.setCell ⟨gq, 0, none⟩ (.int .i64 20)).setCell ⟨gq, 1, none⟩ (.slice (some ⟨w4.heap.size, 0, none⟩) 1 1))) := ⟨bS_ (bS_ HB7.out (Nat.le_of_lt HQ.out)) (Nat.le_of_lt HQ.out)⟩
   have n2_ : Az_ (Fresh1 w3.heap.size ((w7.setCell ⟨gq, 0, none⟩ (.int .i64 20)).setCell ⟨gq, 1, none⟩ (.slice (some ⟨w4.heap.size, 0, none⟩) 1 1)) t w4.heap.size) := ⟨(fresh1_mk (W := w3) (W1 := w4) w3.heap.size (Nat.le_refl _) HR4.out n1_.out HB34.out.size (blk_far (blk_far HT7.out (Nat.ne_of_lt HQ.out) _) (Nat.ne_of_lt HQ.out) _)).2⟩
   clear z0 z1 zf0 zf1 BK7 HT7 HB7 x0 x1 y0 y1 dn HR4
   generalize ((w7.setCell ⟨gq, 0, none⟩ (.int .i64 20)).setCell ⟨gq, 1, none⟩ (.slice (some ⟨w4.heap.size, 0, none⟩) 1 1)) = w8 at n0_ n1_ n2_ ⊢
   have HO8 := Az_.mk (HO4.out.below n1_.out)
   have hEL := fun n => Az_.mk (HO3.out.elem (n := n) n2_.out)
   clear n1_
   go_upto_region 14 with (fail)
   generalize hnb : ((neg / 2 ^ min (IntKind.u64.wrap (k : Int)).toNat 16).tmod 2 == 1) = nb
   clear hnb
   replace hEL := hEL nb
   obtain ⟨c0, c1, _, _⟩ := cz2_ n0_
   go_upto_region 15 with ((with_reducible refine gate_builtin (b := .append) (xs := #[.tmp 45, .tmp 49]) rfl ?_); at_builtin; refine Kd.N_append k78 (w0 := w1) w1.heap.size rfl (.tmp 45) (.tmp 49) 68 78 (.agg #[(.bool false), (.int .i64 0), (.slice none 0 0), (.int .i64 0), (.slice none 0 0)]) 72 rfl Try.underlying68 info78 rfl (by decide) (by omega) u cl (litT nb t) [.bool nb, .int .i64 20, .slice (some ⟨w4.heap.size, 0, none⟩) 1 1, .int .i64 0, .slice none 0 0] (fun k_ => w1.heap.size ≤ k_) (fun k_ => w1.heap.size ≤ k_ ∧ some k_ ≠ u.ownBlock) rfl rfl hEL.out (fun _ hk => hk) (fun _ hk => Nat.le_trans HO8.out.2.size hk) HO8.out.1 HO8.out.2 HO8.out.2.size (by have := hs.out.1; have := HAL.out; omega) ?_; intro v9 w9 ho9 hb9 hg9 _; have HO9 := Az_.mk (show Own78 w1 w9 v9 (cl ++ [litT nb t]) from And.intro ho9 hb9); have HG9 := Az_.mk hg9; clear ho9 hb9 hg9)
   clear c0 c1
   have hown : ∀ k, u.ownBlock = some k → k < w3.heap.size := Kd.N_lt HO3.out.1
   have BK9 := Az_.mk ((HG9.out.block gq (blk_lt n0_.out) (fun he => by have := hown gq he.symm; have := HQ.out; have := HB34.out.size; omega)).trans n0_.out)
   have HT9 := Az_.mk (Kd.F_now (Kd.F_grown n2_.out.2 HG9.out (fun k hk he => by have := hown k he.symm; omega)))
   have HB9 := Az_.mk (HB1.out.trans (HO9.out.2.mono HB1.out.size))
   have hlen := hs.out.1
   have hmem : ∀ x ∈ cl ++ [litT nb t], AtomLit x := fun x hx => by
    rcases List.mem_append.1 hx with h | h
    ·exact hs.out.2.1 x h
    ·rw [List.mem_singleton.1 h]; exact ⟨nb, t, rfl, HOK.out⟩
   have HM := Az_.mk (And.intro (show (cl ++ [litT nb t]).length = k + 1 by simp [hlen]) hmem)
   have HS := Az_.mk (Hvy.step hs.out.2.1 hs.out.2.2 (x := litT nb t) ⟨nb, t, rfl, HOK.out⟩)
   have hsz := Az_.mk (Size_atom HOK.out.1 HOK.out.2)
   obtain ⟨sz, hsz2⟩ : ∃ sz : Int, sz = ((nodes (atomT t)).length : Int) := ⟨_, rfl⟩
   rw [← hsz2] at hsz
   have HSZ := Az_.mk hsz2
   clear hown hlen hmem hsz2 n0_ n2_ HQ HB34 HO3 HO4 HO8 HG9 hEL
   obtain ⟨c0, c1, _, _⟩ := cz2_ BK9
   have HX9 := Az_.mk (Below.refl w9.heap.size w9)
   cases nb with
   | false =>
    go_wp2
    go_roundw
    case rel =>
     have h6 := HAL.out
     exact ⟨_, k + 1, _, hh, aa, rfl, by omega, rfl, rfl, by rw [wrap_nat k (by omega)], ⟨HM.out.1, HM.out.2, HS.out.2 (fun h => by cases h.1)⟩, ⟨HO9.out⟩⟩
    case measure =>
     have h6 := HAL.out
     rw [wrap_nat k (by omega)]
     simp [intOf]; omega
   | true =>
    by_cases hgt : hh < sz
    ·have dg : decide (hh < sz) = true := decide_eq_true hgt
     go_wp2_with (first | (go_at_call 34; refine (term_Size.calls 20 (some ⟨w4.heap.size, 0, none⟩) 1 [t] sz _ (Kd.C_below HT9.out HX10.out) (Nat.le_refl 1) hsz.out).mono ?_; rintro e w11 ⟨rfl, hb⟩; have HX11 := Az_.mk (HX10.out.trans (hb.mono HX10.out.size)); have BK11 := Az_.mk (kB_ BK10.out hb); obtain ⟨d11, e11, _, _⟩ := cz2_ BK11; clear hb) | (go_at_call 34; refine (term_Size.calls 20 (some ⟨w4.heap.size, 0, none⟩) 1 [t] sz _ (Kd.C_below HT9.out HX9.out) (Nat.le_refl 1) hsz.out).mono ?_; rintro e w10 ⟨rfl, hb⟩; have HX10 := Az_.mk (HX9.out.trans (hb.mono HX9.out.size)); have BK10 := Az_.mk (kB_ BK9.out hb); obtain ⟨d10, e10, _, _⟩ := cz2_ BK10; clear hb))
     go_roundw
     case rel =>
      have h6 := HAL.out
      exact ⟨_, k + 1, _, sz, k, rfl, by omega, rfl, rfl, by rw [wrap_nat k (by omega)], ⟨HM.out.1, HM.out.2, by have h1 := HS.out.1 rfl (by rw [HSZ.out] at hgt; exact hgt); rw [hs.out.1] at h1; rw [HSZ.out]; exact h1⟩, ⟨HO9.out.below HX11.out⟩⟩
     case measure =>
      have h6 := HAL.out
      rw [wrap_nat k (by omega)]
      simp [intOf]; omega
    ·have dg : decide (hh < sz) = false := decide_eq_false hgt
     go_wp2_with (go_at_call 34; refine (term_Size.calls 20 (some ⟨w4.heap.size, 0, none⟩) 1 [t] sz _ (Kd.C_below HT9.out HX9.out) (Nat.le_refl 1) hsz.out).mono ?_; rintro e w10 ⟨rfl, hb⟩; have HX10 := Az_.mk (HX9.out.trans (hb.mono HX9.out.size)); have BK10 := Az_.mk (kB_ BK9.out hb); obtain ⟨d10, e10, _, _⟩ := cz2_ BK10; clear hb)
     go_roundw
     case rel =>
      have h6 := HAL.out
      exact ⟨_, k + 1, _, hh, aa, rfl, by omega, rfl, rfl, by rw [wrap_nat k (by omega)], ⟨HM.out.1, HM.out.2, HS.out.2 (fun h => by have h2 : hh < ((nodes (atomT t)).length : Int) := h.2; have h3 := HSZ.out; have h4 := of_decide_eq_false dg; omega)⟩, ⟨HO9.out.below HX10.out⟩⟩
     case measure =>
      have h6 := HAL.out
      rw [wrap_nat k (by omega)]
      simp [intOf]; omega
 have hke : k = l.length := by omega
 subst hke
 obtain ⟨X, cx, hu, hcx, hX⟩ := ho.out.reads
 subst hu
 have HX := Az_.mk hX
 have hcl5 : cl.length ≤ 5 := by have := hs.out.1; have := HAL.out; omega
 obtain ⟨kl, o, ho58, hoa⟩ := Looked_atoms hs.out.2.1 (by omega) hs.out.2.2
 have HLK := Az_.mk ho58
 have HOA := Az_.mk hoa
 have HCL := Az_.mk (And.intro hcl5 hs.out.2.1)
 clear hlt hk ho hX hcl5 ho58 hoa hs
 go_upto_region 19 with (go_at_call 58; refine (order_Looked.calls kl X cx cl o wra HX.out hcx HLK.out).mono ?_; rintro e w12 ⟨v0, rfl, hR, hb⟩; have HR := Az_.mk hR; have HB12 := Az_.mk hb; clear hR hb)
 go_cut [76] (fun v76 wc => v76 = .bool false ∧ wc = w12)
 case first =>
  by_cases haa : 0 ≤ aa
  ·have hR := HR.out
   rw [HOA.out haa] at hR
   obtain ⟨od, oc, rfl, hoc, hcell⟩ := one_int hR
   have e0 : od.add 0 = od := by cases od; simp [Addr.add]
   have da : decide (0 ≤ aa) = true := decide_eq_true haa
   clear hR
   go_wp2
   go_meet
   case rel => exact ⟨rfl, rfl⟩
  ·have da : decide (0 ≤ aa) = false := decide_eq_false haa
   go_wp2
   go_meet
   case rel => exact ⟨rfl, rfl⟩
 case rest =>
 obtain ⟨rfl, rfl⟩ := hcut
 have KX : Az_ (∀ W, Below wc.heap.size wc W → k78.C W X cl.length cl) := ⟨fun W h => Kd.C_below (Kd.C_below HX.out HB12.out) h⟩
 have HBw := Az_.mk (hbw.out.trans (HB12.out.mono hbw.out.size))
 clear HX HR HOA HLK
 go_wp2
 go_loopw [12] (fun i wr => ∃ k : Nat, k ≤ cl.length ∧ i = .int .i64 k ∧ Az_ (Below wc.heap.size wc wr)) (fun i wr => cl.length - (intOf i).toNat)
 case atStart => exact ⟨0, Nat.zero_le _, rfl, ⟨Below.refl _ _⟩⟩
 rename World => wrb
 obtain ⟨i, hi, rfl, hbi⟩ := hrel
 by_cases hlt : i < cl.length
 ·obtain ⟨x, hx0⟩ : ∃ x, cl[i]? = some x := ⟨_, List.getElem?_eq_getElem hlt⟩
  have hx := Az_.mk hx0
  have hxa := Az_.mk (HCL.out.2 x (List.mem_of_getElem? hx0))
  have HFX := Az_.mk (show fitL x by obtain ⟨n, t, rfl, h1, h2⟩ := hxa.out; exact fit_lit h1 h2)
  clear hx0
  go_wp2
  go_loopw [13] (fun j wr => ∃ m : Nat, m ≤ cl.length ∧ j = .int .i64 m ∧ Az_ (Below wc.heap.size wc wr)) (fun j wr => cl.length - (intOf j).toNat)
  case atStart => exact ⟨0, Nat.zero_le _, rfl, hbi⟩
  rename World => wrc
  obtain ⟨j, hj, rfl, hbj⟩ := hrel
  obtain ⟨ad, xA, xc, xB, xd, hAe, hLx, x0, x1, x2, x3, x4⟩ := lit78_at (KX.out wrc hbj.out) i x hx.out
  subst hAe
  by_cases hlt2 : j < cl.length
  ·obtain ⟨y, hy0⟩ : ∃ y, cl[j]? = some y := ⟨_, List.getElem?_eq_getElem hlt2⟩
   have hya := Az_.mk (HCL.out.2 y (List.mem_of_getElem? hy0))
   have HFY := Az_.mk (show fitL y by obtain ⟨n, t, rfl, h1, h2⟩ := hya.out; exact fit_lit h1 h2)
   obtain ⟨ad', yA, yc, yB, yd, hAe', hLy, y0, y1, y2, y3, y4⟩ := lit78_at (KX.out wrc hbj.out) j y hy0
   injection hAe' with hAe'
   subst hAe'
   clear hy0
   go_wp2
   by_cases hq : x.f0 = y.f0
   ·have hgr : grL x y = gtT x.f1 y.f1 := by
     obtain ⟨n, t, rfl, _, _⟩ := hxa.out
     obtain ⟨n', t', rfl, _, _⟩ := hya.out
     have hq' : n = n' := hq
     subst hq'
     exact gr_atoms n t t'
    refine OrderAtoms_r27t (x := x) (y := y) (i := i) (k := j) (gr := grL x y) (by kernel_rfl) rfl rfl rfl (fun w1 hb => GrP_calls HFX.out HFY.out (hLx.below hb) (hLy.below hb)) (fun w1 hb => by rw [hgr]; exact Greater_calls HFX.out.1 HFY.out.1 (hLx.below hb).c1 hLx.l1 (hLy.below hb).c1 hLy.l1) hlt hlt2 hcx (by rw [hq]; exact beq_self_eq_true _) (decide_eq_true hq) x0 x1 x2 x3 x4 y0 y1 y2 y3 y4 ?_
    intro v w6 hb6 hv
    simp only [layL, Nat.reduceAdd, List.setIfInBounds_toArray, List.set_cons_zero, List.set_cons_succ, hv]
    generalize v 0 = n0
    generalize v 1 = n1
    generalize v 2 = n2
    generalize v 3 = n3
    generalize v 4 = n4
    generalize v 5 = n5
    generalize v 6 = n6
    generalize v 7 = n7
    generalize v 8 = n8
    generalize v 9 = n9
    generalize v 10 = n10
    generalize v 11 = n11
    generalize v 12 = n12
    generalize v 13 = n13
    generalize v 14 = n14
    generalize v 15 = n15
    generalize v 16 = n16
    generalize v 17 = n17
    generalize v 18 = n18
    generalize v 19 = n19
    generalize v 20 = n20
    generalize v 21 = n21
    generalize v 22 = n22
    generalize v 23 = n23
    generalize v 24 = n24
    generalize v 25 = n25
    generalize v 26 = n26
    generalize v 27 = n27
    generalize v 28 = n28
    generalize v 29 = n29
    generalize v 30 = n30
    generalize v 31 = n31
    generalize v 32 = n32
    have HB6 := Az_.mk (hbj.out.trans (hb6.mono hbj.out.size))
    clear hv v hb6 hLx hLy x0 x1 x2 x3 x4 y0 y1 y2 y3 y4 hgr hq
    go_wp2
    go_roundw
    case rel =>
     have h4 := HCL.out.1
     exact ⟨j + 1, by omega, by rw [wrap_nat j (by omega)], HB6⟩
    case measure =>
     have h4 := HCL.out.1
     rw [wrap_nat j (by omega)]
     simp [intOf]; omega
   ·refine OrderAtoms_r27f (x := x) (y := y) (i := i) (k := j) (gr := false) (by kernel_rfl) rfl rfl rfl hlt hlt2 hcx (beq_eq_false_iff_ne.2 hq) (decide_eq_false hq) x0 x1 x2 x3 x4 y0 y1 y2 y3 y4 ?_
    intro v w6 hb6 hv
    simp only [layL, Nat.reduceAdd, List.setIfInBounds_toArray, List.set_cons_zero, List.set_cons_succ, hv]
    generalize v 0 = n0
    generalize v 1 = n1
    generalize v 2 = n2
    generalize v 3 = n3
    generalize v 4 = n4
    generalize v 5 = n5
    generalize v 6 = n6
    generalize v 7 = n7
    generalize v 8 = n8
    generalize v 9 = n9
    generalize v 10 = n10
    generalize v 11 = n11
    generalize v 12 = n12
    generalize v 13 = n13
    generalize v 14 = n14
    generalize v 15 = n15
    generalize v 16 = n16
    generalize v 17 = n17
    generalize v 18 = n18
    generalize v 19 = n19
    generalize v 20 = n20
    generalize v 21 = n21
    generalize v 22 = n22
    generalize v 23 = n23
    generalize v 24 = n24
    generalize v 25 = n25
    generalize v 26 = n26
    generalize v 27 = n27
    generalize v 28 = n28
    generalize v 29 = n29
    generalize v 30 = n30
    generalize v 31 = n31
    generalize v 32 = n32
    have HB6 := Az_.mk (hbj.out.trans (hb6.mono hbj.out.size))
    clear hv v hb6 hLx hLy x0 x1 x2 x3 x4 y0 y1 y2 y3 y4 hq
    go_wp2
    go_roundw
    case rel =>
     have h4 := HCL.out.1
     exact ⟨j + 1, by omega, by rw [wrap_nat j (by omega)], HB6⟩
    case measure =>
     have h4 := HCL.out.1
     rw [wrap_nat j (by omega)]
     simp [intOf]; omega
  ·have hje : j = cl.length := by omega
   subst hje
   clear hlt2 hj
   go_wp2
   refine OrderAtoms_r29 (x := x) (i := i) (by kernel_rfl) rfl rfl hlt hcx x0 x1 x2 x3 x4 ?_
   intro v w8 gq hv16 hgq hbx8 hb8
   simp only [layL, Nat.reduceAdd, List.setIfInBounds_toArray, List.set_cons_zero, List.set_cons_succ, hv16]
   generalize v 0 = n0
   generalize v 1 = n1
   generalize v 2 = n2
   generalize v 3 = n3
   generalize v 4 = n4
   generalize v 5 = n5
   generalize v 6 = n6
   generalize v 7 = n7
   generalize v 8 = n8
   generalize v 9 = n9
   generalize v 10 = n10
   generalize v 11 = n11
   generalize v 12 = n12
   generalize v 13 = n13
   generalize v 14 = n14
   generalize v 15 = n15
   clear hv16 v hgq
   go_wp2
   have hL8 := hLx.below hb8
   have hT8 : LitP w8 (turnL x) xB xd xA xc := ⟨hL8.l2, hL8.c2, hL8.l1, hL8.c1⟩
   have HFT : fitL (turnL x) := ⟨HFX.out.2, HFX.out.1⟩
   have hon : (orientL x.f1 x.f2).length = 1 ∧ (orientL x.f2 x.f1).length = 1 := by
    obtain ⟨n, t, rfl, _, _⟩ := hxa.out
    exact orient_atom t
   refine OrderAtoms_r30 (x := x) (i := i) (by kernel_rfl) rfl rfl rfl hbx8 (fun w1 hb => (Orient_calls HFX.out (hL8.below hb)).mono (fun r w2 ⟨g, cs, h1, h2, h3, _⟩ => ⟨_, h1, ⟨g, by rw [hon.1]⟩, h3⟩)) (fun w1 hb => (Orient_calls HFT (hT8.below hb)).mono (fun r w2 ⟨g, cs, h1, h2, h3, _⟩ => ⟨_, h1, ⟨g, by rw [show (orientL (turnL x).f1 (turnL x).f2).length = 1 from hon.2]⟩, h3⟩)) (fun w1 hb => by rw [← gr_turn x]; exact GrP_calls HFX.out HFT (hL8.below hb) (hT8.below hb)) hlt hcx (yad_ hb8 x0) (yad_ hb8 x1) (yad_ hb8 x2) (yad_ hb8 x3) (yad_ hb8 x4) ?_
   intro v w6 hb6 hv
   simp only [layL, Nat.reduceAdd, List.setIfInBounds_toArray, List.set_cons_zero, List.set_cons_succ, hv]
   generalize v 0 = n0
   generalize v 1 = n1
   generalize v 2 = n2
   generalize v 3 = n3
   generalize v 4 = n4
   generalize v 5 = n5
   generalize v 6 = n6
   generalize v 7 = n7
   generalize v 8 = n8
   generalize v 9 = n9
   generalize v 10 = n10
   generalize v 11 = n11
   generalize v 12 = n12
   generalize v 13 = n13
   generalize v 14 = n14
   generalize v 15 = n15
   generalize v 16 = n16
   generalize v 17 = n17
   generalize v 18 = n18
   generalize v 19 = n19
   have HB6 := Az_.mk ((hbj.out.trans (hb8.mono hbj.out.size)).trans (hb6.mono (Nat.le_trans hbj.out.size hb8.size)))
   clear hv v hb6 hLx hL8 hT8 x0 x1 x2 x3 x4 hon hb8 hbx8
   go_wp2
   go_roundw
   case rel =>
    have h4 := HCL.out.1
    exact ⟨i + 1, by omega, by rw [wrap_nat i (by omega)], HB6⟩
   case measure =>
    have h4 := HCL.out.1
    rw [wrap_nat i (by omega)]
    simp [intOf]; omega
 ·have hie : i = cl.length := by omega
  subst hie
  clear hlt hi
  go_wp2
  go_ret
  exact ⟨rfl, HBw.out.trans (hbi.out.mono HBw.out.size)⟩
end
end Go.Proofs.Ytpfddihcikiofaa.P
section
namespace Go.Proofs.Ytpfddihcikiofaa.orderAtoms
open Go.ChangeShapes Go.WideShapes Go.ChangeAt Go.RowKit
set_option linter.unusedVariables false
theorem own : ownKnob Try.prog.godebug = none := by kernel_rfl
theorem laidOut : laidOutB Try.prog = true := by kernel_rfl
set_option maxRecDepth 100000 in
theorem lifted (os : Os) (started : os.Started) (H : Type) (enc : TypeId × Value → H) :
  ReturnsInHanded {} Try.checked os 18 .any (Rows.orderAtomsSpec.pre6 enc Try.prog Try.f18 Rows.orderAtomsRow.domain false) (Rows.orderAtomsSpec.post enc Try.prog Try.f18 false true false false) := by
 refine returnsInHanded_of_change_sized (C := Try.checked) own started (by kernel_rfl) Try.func18
  (ChangeSpec.witness6 (enc := enc) (C := Try.checked) false ⟨#[], #[.slice none 0 0, .int .u16 0], []⟩ 8 (by kernel_rfl) (by kernel_rfl) (by kernel_rfl) (by kernel_rfl)) ?_
 intro W base args ds gs before hval0 hW hcnd hsz0 _
 have hval : ∀ (j : Nat) t v, Try.f18.params[j]? = some t → args[j]? = some v → Value.okWide Try.prog W .any base t v := hval0
 have hW' := hW
 obtain ⟨p, q, hA0, hV, rfl, hfz, hnd⟩ := hW
 have hA : DataW.TrodAll enc Try.prog W 0 (fun _ => true) true Try.f18.params.toList args.toList ds p := hA0
 rw [Try.params18] at hA hval
 obtain ⟨v0, vs0, d0, ds0, p0, q0, hargs, rfl, rfl, h0, r0⟩ := trodAll_cons hA
 obtain ⟨v1, vs1, d1, ds1, p1, q1, rfl, rfl, rfl, h1, r1⟩ := trodAll_cons r0
 obtain ⟨rfl, rfl, rfl⟩ := trodAll_nil r1
 obtain rfl : args = #[v0, v1] := by cases args; simp_all
 obtain ⟨rfl, rfl⟩ := trodVars_none hV
 have k0 := h0
 have lt0 : ∀ x ∈ p0, x.block < W.heap.size := by obtain ⟨m, hm⟩ := k0; exact DataW.trod_lt m _ _ _ hm
 obtain ⟨t0, A0, c0, rfl, hc0, hC0⟩ := P.open_Ts (hval 0 22 v0 rfl rfl) h0
 obtain ⟨a1, rfl, rfl, rfl, w1⟩ := open_int Try.underlying92 (hval 1 92 v1 rfl rfl) h1
 clear hA0 hval0 hsz0
 refine (P.OrderAtoms_walk t0 a1 A0 c0 W hC0 hc0).mono fun e W' ⟨he, bel⟩ => ?_
 subst he
 exact ⟨_, rfl, _, _, _, [], _, [], hW', trodAll_mk1 (shut_bool Try.underlying4 _), (trodAll_cons_mk (Below.trod laidOut (by kernel_rfl) (of_decide_eq_true (by kernel_rfl)) k0 bel lt0) (trodAll_cons_mk (shut_int Try.underlying92 w1) trodAll_mk0)), rfl, bel.frame _, fun h => by cases h⟩
theorem over : Rows.orderAtomsRow.holds Try.pinned (OpenSpec.ofChange Rows.orderAtomsSpec) :=
 OpenClaim.holds_of_wide 18 Try.f18 rfl rfl rfl rfl rfl rfl rfl ⟨rfl, rfl, rfl, rfl, rfl⟩ rfl rfl rfl rfl rfl (by kernel_rfl) Try.func18 (by kernel_rfl)
  (of_decide_eq_true (by kernel_rfl)) (by unfold Func.isWrapper; first | (rw [if_pos (by decide +kernel)]; kernel_rfl) | (rw [if_neg (by decide +kernel)]; exact ⟨rfl, rfl⟩))
  (fun os started H enc _ => lifted os started H enc)
end Go.Proofs.Ytpfddihcikiofaa.orderAtoms
namespace Go.Proofs.Ytpfddihcikiofaa
theorem orderAtoms_holds : Rows.OrderAtomsSaid := orderAtoms.over
#print axioms orderAtoms_holds
end Go.Proofs.Ytpfddihcikiofaa
end
