/- The law OrderMulti holds of every input. Part 4 of 4: GSpec14, PxOrderWeight, GGreatest, PxOrderLooked, PxSoriteslaw14Alive, PxSoritesref14Greatest, PxSoritesref14Weight, PxSoritesref14Looked, GLooks, GLooks2, GTells1, GWide, GTells3, GMoreR, GOrderMulti, LawOrderMulti. -/
import Derived.Test.YtpfddihcikiofaaZOrderMulti3
import Derived.Test.YtpfddihcikiofaaZOrderMulti2
import Derived.Shelf.Abstract
import Derived.SizedLaws
import Derived.Test.YtpfddihcikiofaaRows
import Derived.WalkKit
import Derived.ProofKit
import Derived.OpenShut
import Derived.ShutString
import Derived.ChangeOld
import Derived.Below
import Derived.Test.YtpfddihcikiofaaZOrderMulti1
namespace Go.Proofs.Ytpfddihcikiofaa.P
open Go.RowKit Go.Proofs.YtpfddihcikiofaaW.PrintWords Go.Proofs.YtpfddihcikiofaaW.PrintLast Go.Proofs.YtpfddihcikiofaaW.PrintMore
set_option linter.unusedVariables false
set_option linter.unusedSimpArgs false
section
def restU : List S30 → List Bool → List S30
 | y :: b, v :: u => if v = true then restU b u else y :: restU b u
 | _, _ => []
theorem restU_none : ∀ b : List S30, restU b (List.replicate b.length false) = b
 | [] => rfl
 | y :: b => by rw [List.length_cons, List.replicate_succ, restU, if_neg (by decide), restU_none b]
theorem restU_take : ∀ (b : List S30) (u : List Bool) (j : Nat) (hb : j < b.length) (hu : j < u.length), restU (b.take (j + 1)) (u.take (j + 1)) = restU (b.take j) (u.take j) ++ (if u[j] = true then [] else [b[j]])
 | y :: b, v :: u, 0, _, _ => by simp [restU]
 | y :: b, v :: u, j + 1, hb, hu => by
  have := restU_take b u j (by simpa using hb) (by simpa using hu)
  simp only [List.take_succ_cons, restU, this, List.getElem_cons_succ]
  split <;> simp
theorem restU_set : ∀ (b : List S30) (u : List Bool) (j : Nat) (z : S30) (hb : j < b.length) (hu : j < u.length), u[j] = false → sameT z b[j] = true → (restU (b.take j) (u.take j)).any (sameT z) = false →
  restU b (u.set j true) = (restU b u).eraseP (sameT z) ∧ (restU b u).any (sameT z) = true
 | y :: b, v :: u, 0, z, _, _, hv, hs, _ => by
  simp at hv hs
  subst hv
  simp [restU, hs, List.eraseP_cons]
 | y :: b, v :: u, j + 1, z, hb, hu, hv, hs, hn => by
  simp only [List.getElem_cons_succ] at hv hs
  simp only [List.take_succ_cons, restU] at hn
  cases hvv : v with
  | true =>
   rw [hvv, if_pos rfl] at hn
   obtain ⟨h1, h2⟩ := restU_set b u j z (by simpa using hb) (by simpa using hu) hv hs hn
   simp only [List.set_cons_succ, restU, if_true]
   exact ⟨h1, h2⟩
  | false =>
   rw [hvv, if_neg (by decide), List.any_cons, Bool.or_eq_false_iff] at hn
   obtain ⟨h1, h2⟩ := restU_set b u j z (by simpa using hb) (by simpa using hu) hv hs hn.2
   simp only [List.set_cons_succ, restU]
   rw [if_neg (by decide), if_neg (by decide), h1, List.eraseP_cons, hn.1, cond_false, List.any_cons, hn.1, h2]
   exact ⟨rfl, rfl⟩
theorem rdOf_at (u : List Bool) (j : Nat) (h : j < u.length) : rdOf false u (j : Int) = u[j] := by
 unfold rdOf
 simp [List.getD, List.getElem?_eq_getElem h]
theorem less_spec (a b : List S30) (ha : ∀ x ∈ a, fit x) (na : a.length ≤ 1000000) (nb : b.length ≤ 1000000) : Ev (fun k => soritesref14_less.f k a b) (diffT a b).1 := by
 have run : ∀ (m j : Nat), b.length - j = m → j ≤ b.length → ∀ (u : List Bool) (o : List S30) (i : Nat) (r : List S30), i < a.length → Ev (fun k => soritesref14_less.l0 k a b u o ((i + 1 : Nat) : Int)) r → Ev (fun k => soritesref14_less.l1 k a b u o (i : Int) true (j : Int)) r := by
  intro m
  induction m with
  | zero =>
   intro j hj hle u o i r hi h
   refine Ev.step (f := fun k => soritesref14_less.l0 k a b u o ((i + 1 : Nat) : Int)) (fun k => ?_) h
   rw [soritesref14_less.l1, if_neg (by omega), if_pos rfl, wsucc i a.length hi (by omega)]
  | succ m ih =>
   intro j hj hle u o i r hi h
   refine Ev.step (f := fun k => soritesref14_less.l1 k a b u o (i : Int) true ((j + 1 : Nat) : Int)) (fun k => ?_) (ih (j + 1) (by omega) (by omega) u o i r hi h)
   rw [soritesref14_less.l1, if_pos (by omega), if_pos rfl, wsucc j b.length (by omega) (by omega)]
 have outer : ∀ (n i : Nat), a.length - i = n → i ≤ a.length → ∀ (u : List Bool) (o : List S30), u.length = b.length → o.length ≤ i → Ev (fun k => soritesref14_less.l0 k a b u o (i : Int)) (o ++ (diffT (a.drop i) (restU b u)).1) := by
  intro n
  induction n with
  | zero =>
   intro i hi hle u o hu ho
   refine Ev.step (f := fun _ => some o) (fun k => by rw [soritesref14_less.l0, if_neg (by omega)]) ?_
   rw [List.drop_of_length_le (by omega), diffT, List.append_nil]
   exact Ev.now _
  | succ n ihn =>
   intro i hi hle u o hu ho
   have hlt : i < a.length := by omega
   rw [List.drop_eq_getElem_cons hlt]
   have inner : ∀ (m j : Nat), b.length - j = m → j ≤ b.length → (restU (b.take j) (u.take j)).any (sameT a[i]) = false → Ev (fun k => soritesref14_less.l1 k a b u o (i : Int) false (j : Int)) (o ++ (diffT (a[i] :: a.drop (i + 1)) (restU b u)).1) := by
    intro m
    induction m with
    | zero =>
     intro j hj hjl hn
     rw [List.take_of_length_le (by omega), List.take_of_length_le (by omega)] at hn
     refine Ev.step (f := fun k => soritesref14_less.l0 k a b u (o ++ [a[i]]) ((i + 1 : Nat) : Int)) (fun k => ?_) ?_
     ·rw [soritesref14_less.l1, if_neg (by omega), if_neg (by decide), if_pos (by omega), if_pos (by omega), if_pos (by omega), rd24_at a i hlt, wsucc i a.length hlt (by omega), S30.eta]
     ·have := ihn (i + 1) (by omega) (by omega) u (o ++ [a[i]]) hu (by rw [List.length_append, List.length_singleton]; omega)
      rw [diffT, if_neg (by rw [hn]; decide)]
      rw [List.append_assoc] at this
      exact this
    | succ m ihm =>
     intro j hj hjl hn
     have hjb : j < b.length := by omega
     have hju : j < u.length := by omega
     have htk := restU_take b u j hjb hju
     cases hv : u[j] with
     | true =>
      rw [hv, if_pos rfl, List.append_nil] at htk
      refine Ev.step (f := fun k => soritesref14_less.l1 k a b u o (i : Int) false ((j + 1 : Nat) : Int)) (fun k => ?_) (ihm (j + 1) (by omega) (by omega) (by rw [htk]; exact hn))
      rw [soritesref14_less.l1, if_pos (by omega), if_neg (by decide), if_pos (by omega), if_pos (by omega), rdOf_at u j hju, if_pos hv, wsucc j b.length hjb (by omega)]
     | false =>
      rw [hv, if_neg (by decide)] at htk
      have hsame := RSame_spec a[i] b[j] (ha _ (List.getElem_mem hlt))
      refine Ev.step (f := fun k => (soritesref06_Same.f k a[i].f0 a[i].f1 b[j].f0 b[j].f1).bind fun t => if t = true then soritesref14_less.l1 k a b (u.set j true) o (i : Int) true ((j + 1 : Nat) : Int) else soritesref14_less.l1 k a b u o (i : Int) false ((j + 1 : Nat) : Int)) (fun k => ?_) (Ev.bind hsame ?_)
      ·rw [soritesref14_less.l1, if_pos (by omega), if_neg (by decide), if_pos (by omega), if_pos (by omega), rdOf_at u j hju, if_neg (by rw [hv]; decide), if_pos (by omega), if_pos (by omega), rd24_at a i hlt, rd24_at b j hjb, wsucc j b.length hjb (by omega), Int.toNat_natCast]
      ·cases hs : sameT a[i] b[j] with
       | true =>
        have hs' : (cmpT a[i] b[j] == 0) = true := hs
        simp only [hs', if_true]
        obtain ⟨h1, h2⟩ := restU_set b u j a[i] hjb hju hv hs hn
        refine run (b.length - (j + 1)) (j + 1) rfl (by omega) _ _ i _ hlt ?_
        have := ihn (i + 1) (by omega) (by omega) (u.set j true) o (by rw [List.length_set]; exact hu) (by omega)
        rw [h1] at this
        rw [diffT, if_pos h2]
        exact this
       | false =>
        have hs' : (cmpT a[i] b[j] == 0) = false := hs
        simp only [hs', Bool.false_eq_true, if_false]
        exact ihm (j + 1) (by omega) (by omega) (by rw [htk, List.any_append, hn, List.any_cons, hs]; rfl)
   refine Ev.step (f := fun k => soritesref14_less.l1 k a b u o (i : Int) false ((0 : Nat) : Int)) (fun k => by rw [soritesref14_less.l0, if_pos (by omega)]; rfl) (inner b.length 0 (by omega) (by omega) rfl)
 have := outer a.length 0 rfl (by omega) (List.replicate b.length false) [] (by simp) (by simp)
 rw [restU_none] at this
 refine Ev.congr (f := fun k => soritesref14_less.l0 k a b (List.replicate b.length false) [] ((0 : Nat) : Int)) (fun k => ?_) this
 rw [soritesref14_less.f, if_pos (by omega), if_pos (by omega)]
 rw [Int.toNat_natCast]
 rfl
theorem diff_sub : ∀ (a b : List S30), (∀ x ∈ (diffT a b).1, x ∈ a) ∧ (diffT a b).1.length ≤ a.length
 | [], b => ⟨fun x h => h, Nat.le_refl _⟩
 | z :: r, b => by
  rw [diffT]
  split
  ·obtain ⟨h1, h2⟩ := diff_sub r (b.eraseP (sameT z))
   exact ⟨fun x hx => List.mem_cons_of_mem _ (h1 x hx), by rw [List.length_cons]; omega⟩
  ·obtain ⟨h1, h2⟩ := diff_sub r b
   refine ⟨fun x hx => ?_, by simp only [List.length_cons]; omega⟩
   rcases List.mem_cons.1 hx with rfl | hx
   ·simp
   ·exact List.mem_cons_of_mem _ (h1 x hx)
def refMulti (x y : List S30) : Bool := (y.all fun v => x.any fun u => gtT u v) && decide ((x.length : Int) > 0)
theorem refMulti_eq (a b : List S30) : refMulti (diffT a b).1 (diffT b a).1 = multiT a b := by
 have h1 : ∀ x, x ∈ (diffT a b).1 → cnt b x < cnt a x := fun x hx => by have := cnt_mem hx; rw [(cnt_diff a b x).1] at this; omega
 have h2 : ∀ x, cnt b x < cnt a x → ∃ y ∈ (diffT a b).1, sameT x y = true := fun x hx => cnt_pos (by rw [(cnt_diff a b x).1]; omega)
 have h3 : ∀ x, x ∈ (diffT b a).1 → cnt a x < cnt b x := fun x hx => by have := cnt_mem hx; rw [(cnt_diff b a x).1] at this; omega
 have h4 : ∀ x, cnt a x < cnt b x → ∃ y ∈ (diffT b a).1, sameT x y = true := fun x hx => cnt_pos (by rw [(cnt_diff b a x).1]; omega)
 rw [Bool.eq_iff_iff, multi_iff]
 unfold refMulti DM
 rw [Bool.and_eq_true, List.all_eq_true, decide_eq_true_iff]
 constructor
 ·rintro ⟨k2, k1⟩
  refine ⟨?_, fun y hy => ?_⟩
  ·obtain ⟨x, hx⟩ := List.exists_mem_of_length_pos (show 0 < (diffT a b).1.length by omega)
   exact ⟨x, h1 x hx⟩
  ·obtain ⟨y', hy', hs⟩ := h4 y hy
   obtain ⟨x, hx, hg⟩ := List.any_eq_true.1 (k2 y' hy')
   exact ⟨x, by rw [gt_congr x x y y' (cmp_self x) (same_iff.1 hs)]; exact hg, h1 x hx⟩
 ·rintro ⟨⟨x, hx⟩, k2⟩
  refine ⟨fun y hy => ?_, ?_⟩
  ·obtain ⟨x, hg, hx⟩ := k2 y (h3 y hy)
   obtain ⟨x', hx', hs⟩ := h2 x hx
   exact List.any_eq_true.2 ⟨x', hx', by rw [gt_congr x' x y y (eqv_symm (same_iff.1 hs)) (cmp_self y)]; exact hg⟩
  ·obtain ⟨x', hx', _⟩ := h2 x hx
   have := List.length_pos_of_mem hx'
   omega
theorem RMulti_loop (x y : List S30) (hx : ∀ u ∈ x, fit u) (hy : ∀ v ∈ y, fit v) (nx : x.length ≤ 1000000) (ny : y.length ≤ 1000000) : Ev (fun k => soritesref14_Multi.l0 k x y 0) (refMulti x y) := by
 have key : ∀ (n i : Nat), y.length - i = n → i ≤ y.length → Ev (fun k => soritesref14_Multi.l0 k x y (i : Int)) (((y.drop i).all fun v => x.any fun u => gtT u v) && decide ((x.length : Int) > 0)) := by
  intro n
  induction n with
  | zero =>
   intro i hi hle
   refine Ev.step (f := fun _ => some (decide ((x.length : Int) > 0))) (fun k => by rw [soritesref14_Multi.l0, if_neg (by omega)]) ?_
   rw [List.drop_of_length_le (by omega), List.all_nil, Bool.true_and]
   exact Ev.now _
  | succ n ihn =>
   intro i hi hle
   have hlt : i < y.length := by omega
   rw [List.drop_eq_getElem_cons hlt, List.all_cons, Bool.and_assoc]
   have inner : ∀ (m j : Nat), x.length - j = m → j ≤ x.length → ∀ b : Bool, Ev (fun k => soritesref14_Multi.l1 k x y (i : Int) b (j : Int)) ((b || (x.drop j).any fun u => gtT u y[i]) && (((y.drop (i + 1)).all fun v => x.any fun u => gtT u v) && decide ((x.length : Int) > 0))) := by
    intro m
    induction m with
    | zero =>
     intro j hj hjl b
     rw [show x.drop j = [] from List.drop_of_length_le (by omega), List.any_nil, Bool.or_false]
     cases b with
     | true =>
      refine Ev.step (f := fun k => soritesref14_Multi.l0 k x y ((i + 1 : Nat) : Int)) (fun k => by rw [soritesref14_Multi.l1, if_neg (by omega), if_pos rfl, wsucc i y.length hlt (by omega)]) ?_
      rw [Bool.true_and]
      exact ihn (i + 1) (by omega) (by omega)
     | false =>
      refine Ev.step (f := fun _ => some false) (fun k => by rw [soritesref14_Multi.l1, if_neg (by omega), if_neg (by decide)]) (Ev.now _)
    | succ m ihm =>
     intro j hj hjl b
     have hjb : j < x.length := by omega
     rw [List.drop_eq_getElem_cons hjb, List.any_cons]
     cases b with
     | true =>
      refine Ev.step (f := fun k => soritesref14_Multi.l1 k x y (i : Int) true ((j + 1 : Nat) : Int)) (fun k => by rw [soritesref14_Multi.l1, if_pos (by omega), if_pos rfl, wsucc j x.length hjb (by omega)]) ?_
      have := ihm (j + 1) (by omega) (by omega) true
      rw [Bool.true_or] at this ⊢
      exact this
     | false =>
      refine Ev.step (f := fun k => (soritesref10_Greater.f k x[j].f0 x[j].f1 y[i].f0 y[i].f1).bind fun t => soritesref14_Multi.l1 k x y (i : Int) t ((j + 1 : Nat) : Int)) (fun k => ?_) (Ev.bind (RGreater_spec x[j] y[i] (hx _ (List.getElem_mem hjb)) (hy _ (List.getElem_mem hlt))) ?_)
      ·rw [soritesref14_Multi.l1, if_pos (by omega), if_neg (by decide), if_pos (by omega), if_pos (by omega), if_pos (by omega), rd24_at x j hjb, rd24_at y i hlt, wsucc j x.length hjb (by omega)]
      ·rw [Bool.false_or]
       exact ihm (j + 1) (by omega) (by omega) _
   refine Ev.step (f := fun k => soritesref14_Multi.l1 k x y (i : Int) false ((0 : Nat) : Int)) (fun k => by rw [soritesref14_Multi.l0, if_pos (by omega)]; rfl) ?_
   have := inner x.length 0 rfl (by omega) false
   rw [Bool.false_or] at this
   exact this
 exact key y.length 0 rfl (by omega)
theorem RMulti_spec (a b : List S30) (ha : ∀ x ∈ a, fit x) (hb : ∀ x ∈ b, fit x) (na : a.length ≤ 1000000) (nb : b.length ≤ 1000000) : Ev (fun k => soritesref14_Multi.f k a b) (multiT a b) := by
 unfold soritesref14_Multi.f
 refine Ev.bind (less_spec a b ha na nb) (Ev.bind (less_spec b a hb nb na) ?_)
 rw [← refMulti_eq]
 obtain ⟨h1, h2⟩ := diff_sub a b
 obtain ⟨h3, h4⟩ := diff_sub b a
 exact RMulti_loop _ _ (fun u hu => ha u (h1 u hu)) (fun v hv => hb v (h3 v hv)) (by omega) (by omega)
def termsT (x : S78) : List S30 := if x.f0 = true then [x.f1, x.f1, x.f2, x.f2] else [x.f1, x.f2]
def grL (x y : S78) : Bool := multiT (termsT x) (termsT y)
def fitL (x : S78) : Prop := fit x.f1 ∧ fit x.f2
theorem terms_fit {x : S78} (h : fitL x) : ∀ t ∈ termsT x, fit t := by
 intro t ht
 unfold termsT at ht
 split at ht <;> simp at ht
 ·rcases ht with rfl | rfl | rfl | rfl <;> first | exact h.1 | exact h.2
 ·rcases ht with rfl | rfl <;> first | exact h.1 | exact h.2
theorem terms_len (x : S78) : (termsT x).length ≤ 4 := by unfold termsT; split <;> simp
theorem OTerms_of (x : S78) : order_Terms.f x.f0 x.f1.f0 x.f1.f1 x.f2.f0 x.f2.f1 = some (termsT x) := by
 unfold order_Terms.f termsT
 simp only [S30.eta]
 split <;> rfl
theorem RTerms_of (x : S78) : soritesref14_Terms.f x.f0 x.f1.f0 x.f1.f1 x.f2.f0 x.f2.f1 = some (termsT x) := by
 unfold soritesref14_Terms.f termsT
 simp only [S30.eta]
 split <;> rfl
theorem OGreater_of {x y : S78} (hx : fitL x) (hy : fitL y) : order_Greater.f x.f0 x.f1.f0 x.f1.f1 x.f2.f0 x.f2.f1 y.f0 y.f1.f0 y.f1.f1 y.f2.f0 y.f2.f1 = some (grL x y) := by
 unfold order_Greater.f
 rw [OTerms_of, OTerms_of, Option.bind_some, Option.bind_some, Multi_of (terms_fit hx) (terms_fit hy) (by have := terms_len x; omega) (by have := terms_len y; omega)]
 rfl
theorem RGreaterL_spec {x y : S78} (hx : fitL x) (hy : fitL y) : Ev (fun k => soritesref14_Greater.f k x.f0 x.f1.f0 x.f1.f1 x.f2.f0 x.f2.f1 y.f0 y.f1.f0 y.f1.f1 y.f2.f0 y.f2.f1) (grL x y) := by
 unfold soritesref14_Greater.f
 simp only [RTerms_of, Option.bind_some]
 exact Ev.bind (RMulti_spec _ _ (terms_fit hx) (terms_fit hy) (by have := terms_len x; omega) (by have := terms_len y; omega)) (Ev.now _)
end
section
attribute [local go_sem] max2_int min2_int max_two min_two max_three min_three max_four min_four
def order_weight.f (a0_0 : Bool) (a0_1 : Int) (l0_2 : List (S30)) (a0_3 : Int) (l0_4 : List (S30)) : Option (Int) := (term_Size.f a0_1 l0_2).bind fun t364 => ((term_Size.f a0_3 l0_4).bind fun t365 => (some (wrap64 (t364 + t365))))
def order_weight.T1 : Bool × List (List Nat × List Nat) := (true, [([], []), ([0], [0]), ([1], [1]), ([], []), ([3], [3]), ([4, 2], [4]), ([2, 5], [2, 5]), ([6, 5, 0, 1, 2, 3, 4, 5, 6], [6])])
def order_weight.B1 : List Nat := [0, 1, 3, 0, 8, 31, 63, 127]
theorem order_weight.tab1 : rtab .any (opsOf Try.f86 1) = order_weight.T1 := by kernel_rfl
theorem order_weight.bits1 : waitsOk order_weight.T1.2 order_weight.B1 = true := by kernel_rfl
set_option maxHeartbeats 8000000 in
set_option maxRecDepth 100000 in
theorem order_weight.calls (a0_0 : Bool) (a0_1 : Int) (A0_2 : Option Addr) (c0_2 : Nat) (l0_2 : List (S30)) (a0_3 : Int) (A0_4 : Option Addr) (c0_4 : Nat) (l0_4 : List (S30)) (r : Int) (w : World) (hr0_2 : Kd.C k30 w A0_2 l0_2.length l0_2) (hc0_2 : l0_2.length ≤ c0_2) (hr0_4 : Kd.C k30 w A0_4 l0_4.length l0_4) (hc0_4 : l0_4.length ≤ c0_4) (h : order_weight.f a0_0 a0_1 l0_2 a0_3 l0_4 = some r) :
  Calls Try.prog 86 #[.agg #[.bool a0_0, .int .i64 a0_1, .slice A0_2 l0_2.length c0_2, .int .i64 a0_3, .slice A0_4 l0_4.length c0_4]] w fun e w' => e = .returned (.int .i64 r) ∧ Below w.heap.size w w' := by
 have hu78 := Try.underlying78
 have hu30 := Try.underlying30
 have HR0_2 := Az_.mk hr0_2
 have HC0_2 := Az_.mk hc0_2
 clear hr0_2 hc0_2
 have HR0_4 := Az_.mk hr0_4
 have HC0_4 := Az_.mk hc0_4
 clear hr0_4 hc0_4
 have HB := Az_.mk (Below.refl w.heap.size w)
 have H : ((term_Size.f a0_1 l0_2).bind fun t364 => ((term_Size.f a0_3 l0_4).bind fun t365 => (some (wrap64 (t364 + t365))))) = some r := h
 clear h
 replace H := Option.bind_eq_some_iff.mp H
 obtain ⟨t364, A20, H⟩ := H
 replace H : ((term_Size.f a0_3 l0_4).bind fun t365 => (some (wrap64 (t364 + t365)))) = some r := H
 have A2 := Az_.mk A20
 clear A20
 replace H := Option.bind_eq_some_iff.mp H
 obtain ⟨t365, A30, H⟩ := H
 replace H : (some (wrap64 (t364 + t365))) = some r := H
 have A3 := Az_.mk A30
 clear A30
 obtain rfl := Option.some.inj H
 go_enter Try.func86, Try.ntmps86
 try go_wp2_with (first | ((with_reducible refine gate_dst (N := 1) rfl ?_); refine box_event ?hg (N := 1) ?hd (cs := #[.bool a0_0, .int .i64 a0_1, .slice A0_2 l0_2.length c0_2, .int .i64 a0_3, .slice A0_4 l0_4.length c0_4]) (t := 78) ?hr ?_; (case hd => rfl); (case hg => rfl); (case hr => exact rq_); intro gb363 hg w4 hbox hb; have BK363 := Az_.mk (hbox); have GW363 := Az_.mk ((by rw [hg]; exact (bZ_ (bq_ HB)) : w.heap.size ≤ gb363)); have GE363 := Az_.mk ((by rw [hg]; exact (bZ_ (bq_ HB)) : w.heap.size ≤ gb363)); replace HB := Az_.mk (bT_ (bq_ HB) hb); clear hb hbox hg))
 replace BK363 := Az_.mk (kD_ BK363.out)
 replace HB := Az_.mk (bD_ HB.out)
 refine start_ (n := 8) (S := fun w' => w'.cell? ⟨gb363, 0, none⟩ = some (.bool a0_0) ∧ w'.cell? ⟨gb363, 1, none⟩ = some (.int .i64 a0_1) ∧ w'.cell? ⟨gb363, 2, none⟩ = some (.slice A0_2 l0_2.length c0_2) ∧ w'.cell? ⟨gb363, 3, none⟩ = some (.int .i64 a0_3) ∧ w'.cell? ⟨gb363, 4, none⟩ = some (.slice A0_4 l0_4.length c0_4)) (ds := []) #[false, false, false, false, false, false, false, false] (by kernel_rfl) rfl rfl ⟨(yaa_ BK363.out 0).trans rfl, (yaa_ BK363.out 1).trans rfl, (yaa_ BK363.out 2).trans rfl, (yaa_ BK363.out 3).trans rfl, (yaa_ BK363.out 4).trans rfl⟩ (fun hHeld => ?_); refine with_tabW order_weight.tab1 order_weight.bits1 (fun HT_ HW_ => ?_)
 generalize w4.drew = w5 at BK363 HB hHeld ⊢
 refine pa_ 0 3 HT_ ?_
 refine pa_ 3 6 HT_ ?_
 refine ta5_ 1 4 HT_ HW_ hHeld ?_
 refine ta5_ 4 7 HT_ HW_ hHeld ?_
 refine one_ (i := 2) (N := some 5) #[true, true, true, true, true, false, false, false] rfl rfl (one_of HT_.out (by kernel_rfl)) (by decide) (fun K hK => ?_)
 refine goes_ Try.func34 (by kernel_rfl) rfl #[.agg #[.int .i64 a0_1, .slice A0_2 l0_2.length c0_2]] (by rfl) rfl rfl mq_ ?_
 with_reducible refine (term_Size.calls a0_1 _ _ l0_2 t364 _ ?side1 ?side2 A2.out).mono ?_
 (case side1 => exact cq_ (Kd.C_below HR0_2.out HB.out))
 (case side2 => exact HC0_2.out)
 rintro e w6 ⟨rfl, hb⟩
 refine ⟨_, rfl, ?_⟩
 replace BK363 := kb_ BK363 hb
 replace HB := Az_.mk (bT_ (bq1_ HB GE363) hb)
 (try clear hb)
 (try clear hb2)
 (try clear hk)
 (try clear hi)
 refine hK.out _ _ ⟨(yaa_ BK363.out 0).trans rfl, (yaa_ BK363.out 1).trans rfl, (yaa_ BK363.out 2).trans rfl, (yaa_ BK363.out 3).trans rfl, (yaa_ BK363.out 4).trans rfl⟩ (fun hHeld => ?_)
 clear hK K
 refine norm_ (a' := ?_) ?_ ?_
 rotate_left
 ·show Act.put _ (some 5) _ = _
  simp only [Act.put, sA_, sZ_, sS_, i64_w, i32_w]
  rfl
 refine one_ (i := 5) (N := some 8) #[true, true, true, true, true, true, false, false] rfl rfl (one_of HT_.out (by kernel_rfl)) (by decide) (fun K hK => ?_)
 refine goes_ Try.func34 (by kernel_rfl) rfl #[.agg #[.int .i64 a0_3, .slice A0_4 l0_4.length c0_4]] (by rfl) rfl rfl mq_ ?_
 with_reducible refine (term_Size.calls a0_3 _ _ l0_4 t365 _ ?side1 ?side2 A3.out).mono ?_
 (case side1 => exact cq_ (Kd.C_below HR0_4.out HB.out))
 (case side2 => exact HC0_4.out)
 rintro e w7 ⟨rfl, hb⟩
 refine ⟨_, rfl, ?_⟩
 replace BK363 := kb_ BK363 hb
 replace HB := Az_.mk (bT_ (bq1_ HB GE363) hb)
 (try clear hb)
 (try clear hb2)
 (try clear hk)
 (try clear hi)
 refine hK.out _ _ ⟨(yaa_ BK363.out 0).trans rfl, (yaa_ BK363.out 1).trans rfl, (yaa_ BK363.out 2).trans rfl, (yaa_ BK363.out 3).trans rfl, (yaa_ BK363.out 4).trans rfl⟩ (fun hHeld => ?_)
 clear hK K
 refine norm_ (a' := ?_) ?_ ?_
 rotate_left
 ·show Act.put _ (some 8) _ = _
  simp only [Act.put, sA_, sZ_, sS_, i64_w, i32_w]
  rfl
 refine pa_ 6 9 HT_ ?_
 refine pa_ 7 2 HT_ ?_
 refine done_ (done_of HT_.out (by kernel_rfl)) ?_
 try go_wp2
 go_ret
 exact ⟨by first | rfl | (simp [yae_, yad_] <;> rfl) | (simp [*, yae_, yad_] <;> rfl), bq1_ HB GE363⟩
end
section
set_option maxHeartbeats 4000000 in
set_option maxRecDepth 100000 in
theorem Greatest1_r1 {id : Nat} {a : Act} {w : World} {Q : Exit → Act → World → Prop} {gx gc gi m c : Nat} {i : Int} {ad : Addr} {x0 x1 x2 x3 x4 e0 e1 e2 e3 e4 : Value} {r : Bool}
  (hr : regionOk #[{ dst := some 5, op := Op.load 78 (Operand.tmp 3), type := 78, pos := "order.go:47", after := #[], guard := none }, { dst := some 6, op := Op.load 68 (Operand.tmp 1), type := 68, pos := "order.go:47", after := #[], guard := none }, { dst := some 7, op := Op.load 3 (Operand.tmp 2), type := 3, pos := "order.go:47", after := #[], guard := none }, { dst := some 8, op := Op.indexAddr 68 (Operand.tmp 6) (Operand.tmp 7), type := 0, pos := "order.go:47", after := #[{ on := 1, ground := Ground.data }, { on := 2, ground := Ground.data }], guard := none }, { dst := some 9, op := Op.load 78 (Operand.tmp 8), type := 78, pos := "order.go:47", after := #[{ on := 3, ground := Ground.data }], guard := none }, { dst := some 10, op := Op.call { callee := Callee.value (Operand.func 66), args := #[Operand.tmp 5, Operand.tmp 9], argTypes := #[78, 78] }, type := 4, pos := "order.go:47", after := #[{ on := 0, ground := Ground.data }, { on := 4, ground := Ground.data }], guard := none }, { dst := some 4, op := Op.assign (Operand.tmp 10), type := 4, pos := "order.go:47", after := #[{ on := 5, ground := Ground.data }, { on := 5, ground := Ground.chain }, { on := 0, ground := Ground.phase }, { on := 1, ground := Ground.phase }, { on := 2, ground := Ground.phase }, { on := 3, ground := Ground.phase }, { on := 4, ground := Ground.phase }, { on := 5, ground := Ground.phase }], guard := none }] a.tmps.size = true)
  (hT3 : a.tmps.getD 3 undef = .pointer (some ⟨gx, 0, none⟩)) (hX3 : w.heap[gx]? = some (.cells #[x0, x1, x2, x3, x4] 78 (0, 0)))
  (hT1 : a.tmps.getD 1 undef = .pointer (some ⟨gc, 0, none⟩)) (hX1 : w.heap[gc]? = some (.cells #[.slice (some ad) m c] 68 (0, 0)))
  (hT2 : a.tmps.getD 2 undef = .pointer (some ⟨gi, 0, none⟩)) (hX2 : w.heap[gi]? = some (.cells #[.int .i64 i] 3 (0, 0)))
  (hF5 : ∀ w1, Below w.heap.size w w1 → Calls Try.prog 66 #[.agg #[x0, x1, x2, x3, x4], .agg #[e0, e1, e2, e3, e4]] w1 fun e w2 => e = .returned (.bool r) ∧ Below w1.heap.size w1 w2)
  (hi : 0 ≤ i ∧ i < m) (h0 : w.cell? (ad.add (i.toNat * 5)) = some e0) (h1 : w.cell? ⟨(ad.add (i.toNat * 5)).block, (ad.add (i.toNat * 5)).off + 1, none⟩ = some e1) (h2 : w.cell? ⟨(ad.add (i.toNat * 5)).block, (ad.add (i.toNat * 5)).off + 2, none⟩ = some e2) (h3 : w.cell? ⟨(ad.add (i.toNat * 5)).block, (ad.add (i.toNat * 5)).off + 3, none⟩ = some e3) (h4 : w.cell? ⟨(ad.add (i.toNat * 5)).block, (ad.add (i.toNat * 5)).off + 4, none⟩ = some e4)
  (hK : ∀ v w', Below w.heap.size w w' → v 6 = .bool r → Q .normal { tmps := layL [some 5, some 6, some 7, some 8, some 9, some 10, some 4] 0 v a.tmps, defers := a.defers } w') :
  (Code.region id #[{ dst := some 5, op := Op.load 78 (Operand.tmp 3), type := 78, pos := "order.go:47", after := #[], guard := none }, { dst := some 6, op := Op.load 68 (Operand.tmp 1), type := 68, pos := "order.go:47", after := #[], guard := none }, { dst := some 7, op := Op.load 3 (Operand.tmp 2), type := 3, pos := "order.go:47", after := #[], guard := none }, { dst := some 8, op := Op.indexAddr 68 (Operand.tmp 6) (Operand.tmp 7), type := 0, pos := "order.go:47", after := #[{ on := 1, ground := Ground.data }, { on := 2, ground := Ground.data }], guard := none }, { dst := some 9, op := Op.load 78 (Operand.tmp 8), type := 78, pos := "order.go:47", after := #[{ on := 3, ground := Ground.data }], guard := none }, { dst := some 10, op := Op.call { callee := Callee.value (Operand.func 66), args := #[Operand.tmp 5, Operand.tmp 9], argTypes := #[78, 78] }, type := 4, pos := "order.go:47", after := #[{ on := 0, ground := Ground.data }, { on := 4, ground := Ground.data }], guard := none }, { dst := some 4, op := Op.assign (Operand.tmp 10), type := 4, pos := "order.go:47", after := #[{ on := 5, ground := Ground.data }, { on := 5, ground := Ground.chain }, { on := 0, ground := Ground.phase }, { on := 1, ground := Ground.phase }, { on := 2, ground := Ground.phase }, { on := 3, ground := Ground.phase }, { on := 4, ground := Ground.phase }, { on := 5, ground := Ground.phase }], guard := none }] true).wp Try.prog Q a w := by
 have hmx : Try.prog.follows .mixedOrders = true := by kernel_rfl
 refine region_detR 7 hmx hr (by kernel_rfl) ?_
 refine DetR.is (o := { dst := some 5, op := Op.load 78 (Operand.tmp 3), type := 78, pos := "order.go:47", after := #[], guard := none }) (u := .agg #[x0, x1, x2, x3, x4]) rfl (by decide) (fun T w' hb hd hB K hK => ?sx1) ?rx1
 case sx1 =>
  have e3 := (hB 3 (by kernel_rfl)).trans hT3
  have q3_0 : w'.cell? ⟨gx, 0, none⟩ = some (x0) := (yaa_ (kB_ hX3 hb) 0).trans rfl
  have q3_1 : w'.cell? ⟨gx, 1, none⟩ = some (x1) := (yaa_ (kB_ hX3 hb) 1).trans rfl
  have q3_2 : w'.cell? ⟨gx, 2, none⟩ = some (x2) := (yaa_ (kB_ hX3 hb) 2).trans rfl
  have q3_3 : w'.cell? ⟨gx, 3, none⟩ = some (x3) := (yaa_ (kB_ hX3 hb) 3).trans rfl
  have q3_4 : w'.cell? ⟨gx, 4, none⟩ = some (x4) := (yaa_ (kB_ hX3 hb) 4).trans rfl
  rw [if_pos (yac_ _ rfl)]
  clear hd hB
  go_simp
  exact hK _ (Below.refl _ _)
 refine DetR.is (o := { dst := some 6, op := Op.load 68 (Operand.tmp 1), type := 68, pos := "order.go:47", after := #[], guard := none }) (u := ?ux2) rfl (by decide) (fun T w' hb hd hB K hK => ?sx2) ?rx2
 case sx2 =>
  have e1 := (hB 1 (by kernel_rfl)).trans hT1
  have q1_0 : w'.cell? ⟨gc, 0, none⟩ = some (.slice (some ad) m c) := (yaa_ (kB_ hX1 hb) 0).trans rfl
  rw [if_pos (yac_ _ rfl)]
  clear hd hB
  go_simp
  exact hK _ (Below.refl _ _)
 refine DetR.is (o := { dst := some 7, op := Op.load 3 (Operand.tmp 2), type := 3, pos := "order.go:47", after := #[], guard := none }) (u := ?ux3) rfl (by decide) (fun T w' hb hd hB K hK => ?sx3) ?rx3
 case sx3 =>
  have e2 := (hB 2 (by kernel_rfl)).trans hT2
  have q2_0 : w'.cell? ⟨gi, 0, none⟩ = some (.int .i64 i) := (yaa_ (kB_ hX2 hb) 0).trans rfl
  rw [if_pos (yac_ _ rfl)]
  clear hd hB
  go_simp
  exact hK _ (Below.refl _ _)
 refine DetR.is (o := { dst := some 8, op := Op.indexAddr 68 (Operand.tmp 6) (Operand.tmp 7), type := 0, pos := "order.go:47", after := #[{ on := 1, ground := Ground.data }, { on := 2, ground := Ground.data }], guard := none }) (u := ?ux4) rfl (by decide) (fun T w' hb hd hB K hK => ?sx4) ?rx4
 case sx4 =>
  have e6 := hd 1 6 _ (by decide) (by kernel_rfl) rfl rfl
  replace e6 : T.getD 6 undef = _ := e6
  have e7 := hd 2 7 _ (by decide) (by kernel_rfl) rfl rfl
  replace e7 : T.getD 7 undef = _ := e7
  rw [if_pos (yac_ _ rfl)]
  obtain ⟨k0, k1⟩ := hi
  clear hd hB
  go_simp
  exact hK _ (Below.refl _ _)
 refine DetR.is (o := { dst := some 9, op := Op.load 78 (Operand.tmp 8), type := 78, pos := "order.go:47", after := #[{ on := 3, ground := Ground.data }], guard := none }) (u := .agg #[e0, e1, e2, e3, e4]) rfl (by decide) (fun T w' hb hd hB K hK => ?sx5) ?rx5
 case sx5 =>
  have e8 := hd 3 8 _ (by decide) (by kernel_rfl) rfl rfl
  replace e8 : T.getD 8 undef = _ := e8
  rw [if_pos (yac_ _ rfl)]
  have r0 := pw_cell_below hb h0
  have r1 := pw_cell_below hb h1
  have r2 := pw_cell_below hb h2
  have r3 := pw_cell_below hb h3
  have r4 := pw_cell_below hb h4
  clear hd hB
  go_simp
  exact hK _ (Below.refl _ _)
 refine DetR.is (o := { dst := some 10, op := Op.call { callee := Callee.value (Operand.func 66), args := #[Operand.tmp 5, Operand.tmp 9], argTypes := #[78, 78] }, type := 4, pos := "order.go:47", after := #[{ on := 0, ground := Ground.data }, { on := 4, ground := Ground.data }], guard := none }) (u := .bool r) rfl (by decide) (fun T w' hb hd hB K hK => ?sx6) ?rx6
 case sx6 =>
  have e5 := hd 0 5 _ (by decide) (by kernel_rfl) rfl rfl
  replace e5 : T.getD 5 undef = _ := e5
  have e9 := hd 4 9 _ (by decide) (by kernel_rfl) rfl rfl
  replace e9 : T.getD 9 undef = _ := e9
  rw [if_pos (yac_ _ rfl)]
  have hcl := hF5 w' hb
  clear hd hB
  go_simp
  go_at_call 66
  refine hcl.mono ?_
  rintro e w2 ⟨rfl, h2⟩
  exact hK _ h2
 refine DetR.is (o := { dst := some 4, op := Op.assign (Operand.tmp 10), type := 4, pos := "order.go:47", after := #[{ on := 5, ground := Ground.data }, { on := 5, ground := Ground.chain }, { on := 0, ground := Ground.phase }, { on := 1, ground := Ground.phase }, { on := 2, ground := Ground.phase }, { on := 3, ground := Ground.phase }, { on := 4, ground := Ground.phase }, { on := 5, ground := Ground.phase }], guard := none }) (u := ?ux7) rfl (by decide) (fun T w' hb hd hB K hK => ?sx7) ?rx7
 case sx7 =>
  have e10 := hd 5 10 _ (by decide) (by kernel_rfl) rfl rfl
  replace e10 : T.getD 10 undef = _ := e10
  rw [if_pos (yac_ _ rfl)]
  clear hd hB
  go_simp
  exact hK _ (Below.refl _ _)
 refine DetR.done [some 5, some 6, some 7, some 8, some 9, some 10, some 4] (by kernel_rfl) rfl (by kernel_rfl) ?_
 intro v w' hb hv
 exact hK v w' hb (hv 6 _ (by decide) rfl)
theorem rd78_at (l : List S78) (k : Nat) (h : k < l.length) : rd_T78 l (k : Int) = l[k] := by
 unfold rd_T78
 simp [List.getD, List.getElem?_eq_getElem h]
set_option maxHeartbeats 4000000 in
set_option maxRecDepth 100000 in
theorem IndexFunc_L (l : List S78) (A : Option Addr) (c : Nat) (hc : l.length ≤ c) (g : Nat) (cb : Array Value) (p : Nat → Bool) (w : World) (hC : k78.C w A l.length l)
  (eg : ∀ args w1, (callFunc g args).run Try.prog w1 = .ok (.enter g args) w1)
  (hstep : ∀ j (hj : j < l.length) W, Below w.heap.size w W → ∀ A2 c2 A4 c4, l[j].f1.f1.length ≤ c2 → k30.C W A2 l[j].f1.f1.length l[j].f1.f1 → l[j].f2.f1.length ≤ c4 → k30.C W A4 l[j].f2.f1.length l[j].f2.f1 → Calls Try.prog g (#[.agg #[.bool l[j].f0, .int .i64 l[j].f1.f0, .slice A2 l[j].f1.f1.length c2, .int .i64 l[j].f2.f0, .slice A4 l[j].f2.f1.length c4]] ++ cb) W fun r w' => r = .returned (.bool (p j)) ∧ Below W.heap.size W w') :
  Calls Try.prog 107 #[.slice A l.length c, .func (.func g) #[] cb] w fun r w' => ((∃ k, k < l.length ∧ p k = true ∧ (∀ j, j < k → p j = false) ∧ r = .returned (.int .i64 (k : Int))) ∨ ((∀ j, j < l.length → p j = false) ∧ r = .returned (.int .i64 (-1)))) ∧ Below w.heap.size w w' := by
 have hmax : l.length ≤ 9223372036854775807 := hC.2.1
 have hcz := Az_.mk hC
 have hsz := Az_.mk hstep
 clear hC hstep
 go_enter Try.func107, Try.ntmps107
 go_wp2
 go_loopw [8] (fun i wr => ∃ k : Nat, k ≤ l.length ∧ i = .int .i64 k ∧ Az_ (∀ j, j < k → p j = false) ∧ Az_ (Below w.heap.size w wr)) (fun i wr => l.length - (intOf i).toNat)
 case atStart => exact ⟨0, Nat.zero_le _, rfl, ⟨fun j hj => absurd hj (Nat.not_lt_zero _)⟩, ⟨Below.refl _ _⟩⟩
 case round =>
  obtain ⟨k, hk, rfl, hp, hb⟩ := hrel
  by_cases hlt : k < l.length
  ·obtain ⟨ad, A2, c2, A4, c4, rfl, x0, x1, x2, x3, x4, l2, g2, l4, g4⟩ := at_T78 (Kd.C_below hcz.out hb.out) (k : Int) (by omega) (by omega)
   rw [rd78_at l k hlt] at x0 x1 x2 x3 x4 l2 g2 l4 g4
   rw [Int.toNat_natCast] at x0 x1 x2 x3 x4
   have hcl := Az_.mk (hsz.out k hlt wr hb.out A2 c2 A4 c4 l2 g2 l4 g4)
   generalize l[k].f0 = y0 at x0 hcl
   generalize l[k].f1.f0 = y1 at x1 hcl
   generalize l[k].f1.f1.length = y2 at x2 hcl
   generalize l[k].f2.f0 = y3 at x3 hcl
   generalize l[k].f2.f1.length = y4 at x4 hcl
   clear l2 g2 l4 g4
   cases hpk : p k with
   | false =>
    rw [hpk] at hcl
    have hpz := Az_.mk hpk
    clear hpk
    go_wp2_with (go_at_fn g; refine hcl.out.mono ?_; rintro r w3 ⟨rfl, hb3⟩; have hb4 := Az_.mk (hb.out.trans (hb3.mono hb.out.size)); clear hb3)
    go_roundw
    case rel => exact ⟨k + 1, by omega, by go_num, ⟨fun j hj => if h : j < k then hp.out j h else (show k = j by omega) ▸ hpz.out⟩, hb4⟩
    case measure => simp [intOf]; omega
   | true =>
    rw [hpk] at hcl
    have hpz := Az_.mk hpk
    clear hpk
    go_wp2_with (go_at_fn g; refine hcl.out.mono ?_; rintro r w3 ⟨rfl, hb3⟩; have hb4 := Az_.mk (hb.out.trans (hb3.mono hb.out.size)); clear hb3)
    go_ret
    exact ⟨.inl ⟨k, hlt, hpz.out, hp.out, rfl⟩, hb4.out⟩
  ·have hke : k = l.length := by omega
   subst hke
   go_wp2
   go_ret
   exact ⟨.inr ⟨hp.out, rfl⟩, hb.out⟩
set_option maxHeartbeats 4000000 in
set_option maxRecDepth 100000 in
theorem ContainsFunc_L (l : List S78) (A : Option Addr) (c : Nat) (hc : l.length ≤ c) (g : Nat) (cb : Array Value) (p : Nat → Bool) (b : Bool) (w : World) (hC : k78.C w A l.length l)
  (eg : ∀ args w1, (callFunc g args).run Try.prog w1 = .ok (.enter g args) w1)
  (hstep : ∀ j (hj : j < l.length) W, Below w.heap.size w W → ∀ A2 c2 A4 c4, l[j].f1.f1.length ≤ c2 → k30.C W A2 l[j].f1.f1.length l[j].f1.f1 → l[j].f2.f1.length ≤ c4 → k30.C W A4 l[j].f2.f1.length l[j].f2.f1 → Calls Try.prog g (#[.agg #[.bool l[j].f0, .int .i64 l[j].f1.f0, .slice A2 l[j].f1.f1.length c2, .int .i64 l[j].f2.f0, .slice A4 l[j].f2.f1.length c4]] ++ cb) W fun r w' => r = .returned (.bool (p j)) ∧ Below W.heap.size W w')
  (hr : b = true ↔ ∃ j, j < l.length ∧ p j = true) :
  Calls Try.prog 87 #[.slice A l.length c, .func (.func g) #[] cb] w fun r w' => r = .returned (.bool b) ∧ Below w.heap.size w w' := by
 have hI := Az_.mk (IndexFunc_L l A c hc g cb p w hC eg hstep)
 clear hC hstep
 cases b with
 | true =>
  obtain ⟨j, hj, hp⟩ := hr.1 rfl
  have hI2 := Az_.mk (hI.out.mono (fun x w' h => (⟨h.1.elim (fun ⟨k, hk, _, _, h2⟩ => ⟨k, hk, h2⟩) (fun h => absurd (h.1 j hj) (by rw [hp]; decide)), h.2⟩ : (∃ k, k < l.length ∧ x = .returned (.int .i64 (k : Int))) ∧ Below w.heap.size w w')))
  clear hr hp hj hI
  go_enter Try.func87, Try.ntmps87
  go_wp2_with (go_at_call 107; refine hI2.out.mono ?_; rintro x w2 ⟨⟨k, hk, rfl⟩, hi⟩; have hi2 := Az_.mk hi; have hd : decide (0 ≤ (k : Int)) = true := decide_eq_true (by omega); clear hi)
  go_ret
  exact ⟨rfl, hi2.out⟩
 | false =>
  have hno : ∀ k, k < l.length → p k = false := fun k hk => by
   cases h : p k with
   | false => rfl
   | true => exact absurd (hr.2 ⟨k, hk, h⟩) (by decide)
  have hI2 := Az_.mk (hI.out.mono (fun x w' h => (⟨h.1.elim (fun ⟨k, hk, hp, _⟩ => absurd (hno k hk) (by rw [hp]; decide)) (fun h => h.2), h.2⟩ : x = .returned (.int .i64 (-1)) ∧ Below w.heap.size w w')))
  clear hr hno hI
  go_enter Try.func87, Try.ntmps87
  go_wp2_with (go_at_call 107; refine hI2.out.mono ?_; rintro x w2 ⟨rfl, hi⟩; have hi2 := Az_.mk hi; clear hi)
  go_ret
  exact ⟨rfl, hi2.out⟩
theorem eg88 : ∀ args w1, (callFunc 88 args).run Try.prog w1 = .ok (.enter 88 args) w1 := enters_of Try.func88 (by kernel_rfl) rfl
set_option maxHeartbeats 4000000 in
set_option maxRecDepth 100000 in
theorem great88_calls (gc gi : Nat) (l : List S78) (i : Nat) (hi : i < l.length) (A : Option Addr) (c : Nat) (x : S78) (X : Option Addr) (cx : Nat) (Y : Option Addr) (cy : Nat) (r : Bool) (w : World)
  (hbc : w.heap[gc]? = some (.cells #[.slice A l.length c] 68 (0, 0))) (hbi : w.heap[gi]? = some (.cells #[.int .i64 (i : Int)] 3 (0, 0))) (hC : k78.C w A l.length l)
  (lx : x.f1.f1.length ≤ cx) (hX : k30.C w X x.f1.f1.length x.f1.f1) (ly : x.f2.f1.length ≤ cy) (hY : k30.C w Y x.f2.f1.length x.f2.f1)
  (hr : order_Greater.f x.f0 x.f1.f0 x.f1.f1 x.f2.f0 x.f2.f1 l[i].f0 l[i].f1.f0 l[i].f1.f1 l[i].f2.f0 l[i].f2.f1 = some r) :
  Calls Try.prog 88 #[.agg #[.bool x.f0, .int .i64 x.f1.f0, .slice X x.f1.f1.length cx, .int .i64 x.f2.f0, .slice Y x.f2.f1.length cy], .pointer (some ⟨gc, 0, none⟩), .pointer (some ⟨gi, 0, none⟩)] w fun z w' => z = .returned (.bool r) ∧ Below w.heap.size w w' := by
 obtain ⟨ad, A2, c2, A4, c4, rfl, x0, x1, x2, x3, x4, l2, g2, l4, g4⟩ := at_T78 hC (i : Int) (by omega) (by omega)
 rw [rd78_at l i hi] at x0 x1 x2 x3 x4 l2 g2 l4 g4
 obtain ⟨w1, hw1⟩ : ∃ w1, w1 = w.alloc (.cells #[.bool x.f0, .int .i64 x.f1.f0, .slice X x.f1.f1.length cx, .int .i64 x.f2.f0, .slice Y x.f2.f1.length cy] 78) := ⟨_, rfl⟩
 have hb1 : Below w.heap.size w w1 := by rw [hw1]; exact bA_ (Below.refl _ _) _
 have hbx : w1.heap[w.heap.size]? = some (.cells #[.bool x.f0, .int .i64 x.f1.f0, .slice X x.f1.f1.length cx, .int .i64 x.f2.f0, .slice Y x.f2.f1.length cy] 78 (0, 0)) := by rw [hw1]; exact heap_alloc_new _ _
 have F := Az_.mk (And.intro (pw_cell_below hb1 x0) (And.intro (pw_cell_below hb1 x1) (And.intro (pw_cell_below hb1 x2) (And.intro (pw_cell_below hb1 x3) (pw_cell_below hb1 x4)))))
 have G := Az_.mk (And.intro (Kd.C_below g2 hb1) (And.intro (Kd.C_below g4 hb1) (And.intro (Kd.C_below hX hb1) (Kd.C_below hY hb1))))
 have L4 := Az_.mk (And.intro l2 (And.intro l4 (And.intro lx ly)))
 have BX := Az_.mk (And.intro hbx (And.intro (kB_ hbc hb1) (kB_ hbi hb1)))
 have HB := Az_.mk hb1
 have HW := Az_.mk hw1
 have HR := Az_.mk hr
 have HI := Az_.mk hi
 clear x0 x1 x2 x3 x4 l2 g2 l4 g4 hb1 hbx hw1 hbc hbi hC lx hX ly hY hr
 go_enter Try.func88, Try.ntmps88
 go_wp2
 rw [← HW.out]
 refine Greatest1_r1 (gx := w.heap.size) (gc := gc) (gi := gi) (m := l.length) (c := c) (i := (i : Int)) (ad := ad) (r := r) (by kernel_rfl) rfl BX.out.1 rfl BX.out.2.1 rfl BX.out.2.2 ?_ ⟨by omega, by have := HI.out; omega⟩ F.out.1 F.out.2.1 F.out.2.2.1 F.out.2.2.2.1 F.out.2.2.2.2 ?_
 ·intro w2 hb
  exact order_Greater.calls x.f0 x.f1.f0 X cx x.f1.f1 x.f2.f0 Y cy x.f2.f1 l[i].f0 l[i].f1.f0 A2 c2 l[i].f1.f1 l[i].f2.f0 A4 c4 l[i].f2.f1 r w2 (Kd.C_below G.out.2.2.1 hb) L4.out.2.2.1 (Kd.C_below G.out.2.2.2 hb) L4.out.2.2.2 (Kd.C_below G.out.1 hb) L4.out.1 (Kd.C_below G.out.2.1 hb) L4.out.2.1 HR.out
 intro v w2 hb2 hv6
 simp only [layL, Nat.reduceAdd, List.setIfInBounds_toArray, List.set_cons_zero, List.set_cons_succ, hv6]
 clear hv6
 generalize v 0 = t0
 generalize v 1 = t1
 generalize v 2 = t2
 generalize v 3 = t3
 generalize v 4 = t4
 generalize v 5 = t5
 clear v
 have HB2 := Az_.mk (HB.out.trans (hb2.mono HB.out.size))
 clear hb2
 go_wp2
 go_ret
 exact ⟨rfl, HB2.out⟩
def gr78 (x y : S78) : Option Bool := order_Greater.f x.f0 x.f1.f0 x.f1.f1 x.f2.f0 x.f2.f1 y.f0 y.f1.f0 y.f1.f1 y.f2.f0 y.f2.f1
def order_Greatest.f (l : List S78) (i : Int) : Option Bool :=
 if i < 0 ∨ (l.length : Int) ≤ i then some false else if l.all (fun x => (gr78 x (rd_T78 l i)).isSome) = true then some (!(l.any fun x => gr78 x (rd_T78 l i) == some true)) else none
set_option maxHeartbeats 4000000 in
set_option maxRecDepth 100000 in
theorem order_Greatest.calls (A0 : Option Addr) (c0 : Nat) (l0 : List S78) (a1 : Int) (r : Bool) (w : World) (hr0 : Kd.C k78 w A0 l0.length l0) (hc0 : l0.length ≤ c0) (h : order_Greatest.f l0 a1 = some r) :
  Calls Try.prog 59 #[.slice A0 l0.length c0, .int .i64 a1] w fun e w' => e = .returned (.bool r) ∧ Below w.heap.size w w' := by
 unfold order_Greatest.f at h
 by_cases h1 : a1 < 0
 ·rw [if_pos (.inl h1)] at h
  injection h with h
  subst h
  have d1 : decide (a1 < 0) = true := decide_eq_true h1
  clear h1 hr0
  go_enter Try.func59, Try.ntmps59
  go_wp2
  go_ret
  exact ⟨rfl, bA_ (bA_ (Below.refl _ _) _) _⟩
 have d1 : decide (a1 < 0) = false := decide_eq_false h1
 by_cases h2 : (l0.length : Int) ≤ a1
 ·rw [if_pos (.inr h2)] at h
  injection h with h
  subst h
  have d2 : decide ((l0.length : Int) ≤ a1) = true := decide_eq_true h2
  clear h1 h2 hr0
  go_enter Try.func59, Try.ntmps59
  go_wp2
  go_ret
  exact ⟨rfl, bA_ (bA_ (Below.refl _ _) _) _⟩
 have d2 : decide ((l0.length : Int) ≤ a1) = false := decide_eq_false h2
 rw [if_neg (fun h => h.elim h1 h2)] at h
 obtain ⟨i, rfl⟩ : ∃ i : Nat, a1 = (i : Int) := ⟨a1.toNat, by omega⟩
 have hi : i < l0.length := by omega
 rw [rd78_at l0 i hi] at h
 split at h
 ·rename_i hall
  injection h with h
  subst h
  rw [List.all_eq_true] at hall
  obtain ⟨w1, hw1⟩ : ∃ w1, w1 = (w.alloc (.cells #[.slice A0 l0.length c0] 68)).alloc (.cells #[.int .i64 (i : Int)] 3) := ⟨_, rfl⟩
  have hb1 : Below w.heap.size w w1 := by rw [hw1]; exact bA_ (bA_ (Below.refl _ _) _) _
  have hbc : w1.heap[w.heap.size]? = some (.cells #[.slice A0 l0.length c0] 68 (0, 0)) := by rw [hw1]; exact kA_ (heap_alloc_new _ _) _
  have hbi : w1.heap[w.heap.size + 1]? = some (.cells #[.int .i64 (i : Int)] 3 (0, 0)) := by
   have := heap_alloc_new (w.alloc (.cells #[.slice A0 l0.length c0] 68)) (.cells #[.int .i64 (i : Int)] 3)
   rw [World.size_alloc] at this
   rw [hw1]; exact this
  have hcf := ContainsFunc_L l0 A0 c0 hc0 88 #[.pointer (some ⟨w.heap.size, 0, none⟩), .pointer (some ⟨w.heap.size + 1, 0, none⟩)] (fun j => if h : j < l0.length then gr78 l0[j] l0[i] == some true else false) (l0.any fun x => gr78 x l0[i] == some true) w1 (Kd.C_below hr0 hb1) eg88 (fun j hj W hW A2 c2 A4 c4 g1 g2 g3 g4 => by
   rw [dif_pos hj]
   obtain ⟨b, hb⟩ := Option.isSome_iff_exists.1 (hall l0[j] (List.getElem_mem hj))
   have hbb : (gr78 l0[j] l0[i] == some true) = b := by rw [hb]; cases b <;> rfl
   rw [hbb]
   exact great88_calls w.heap.size (w.heap.size + 1) l0 i hi A0 c0 l0[j] A2 c2 A4 c4 b W (kB_ hbc hW) (kB_ hbi hW) (Kd.C_below (Kd.C_below hr0 hb1) hW) g1 g2 g3 g4 hb) (by
    rw [List.any_eq_true]
    constructor
    ·rintro ⟨x, hx, hg⟩
     obtain ⟨j, hj, rfl⟩ := List.getElem_of_mem hx
     exact ⟨j, hj, by rw [dif_pos hj]; exact hg⟩
    ·rintro ⟨j, hj, hg⟩
     rw [dif_pos hj] at hg
     exact ⟨l0[j], List.getElem_mem hj, hg⟩)
  obtain ⟨b, hb⟩ : ∃ b, b = l0.any fun x => gr78 x l0[i] == some true := ⟨_, rfl⟩
  rw [← hb] at hcf ⊢
  have HC := Az_.mk hcf
  have HW := Az_.mk hw1
  have HB := Az_.mk hb1
  clear hcf hw1 hb1 hbc hbi hall hr0 hb h1 h2
  go_enter Try.func59, Try.ntmps59
  go_wp2_with (go_at_call 87; rw [← HW.out]; refine HC.out.mono ?_; rintro z w2 ⟨rfl, hb⟩; have HB2 := Az_.mk hb; clear hb)
  go_ret
  exact ⟨rfl, HB.out.trans (HB2.out.mono HB.out.size)⟩
 ·cases h
end
section
attribute [local go_sem] max2_int min2_int max_two min_two max_three min_three max_four min_four
mutual
def order_Looked.l0 : Nat → List (S78) → Int → List (S78) → Int → Int → Option (List Int)
 | 0, _, _, _, _, _ => none
 | k + 1, x0, x3, x8, x9, x10 => if x10 < x9 then (if 0 ≤ x10 then (if x10 < (x8.length : Int) then (if (rd_T78 x8 x10).f0 = true then (if x3 < 0 then (order_Looked.l0 k x0 x10 x8 x9 (wrap64 (x10 + 1))) else ((order_weight.f ((rd_T78 x8 x10).f0) ((rd_T78 x8 x10).f1.f0) ((rd_T78 x8 x10).f1.f1) ((rd_T78 x8 x10).f2.f0) ((rd_T78 x8 x10).f2.f1)).bind fun t368 => (if 0 ≤ x3 then (if x3 < (x0.length : Int) then ((order_weight.f ((rd_T78 x0 x3).f0) ((rd_T78 x0 x3).f1.f0) ((rd_T78 x0 x3).f1.f1) ((rd_T78 x0 x3).f2.f0) ((rd_T78 x0 x3).f2.f1)).bind fun t370 => (if t368 > t370 then (order_Looked.l0 k x0 x10 x8 x9 (wrap64 (x10 + 1))) else (order_Looked.l0 k x0 x3 x8 x9 (wrap64 (x10 + 1))))) else (none)) else (none)))) else (order_Looked.l0 k x0 x3 x8 x9 (wrap64 (x10 + 1)))) else (none)) else (none)) else (if x3 ≥ 0 then (some (([x3] : List Int))) else (order_Looked.l1 k x0 ([] : List Int) (x0.length : Int) 0))
def order_Looked.l1 : Nat → List (S78) → List Int → Int → Int → Option (List Int)
 | 0, _, _, _, _ => none
 | k + 1, x0, x6, x38, x39 => if x39 < x38 then ((order_Greatest.f x0 x39).bind fun t374 => (if t374 = true then (if x6.length < 17592186044416 then (order_Looked.l1 k x0 (x6 ++ [x39]) x38 (wrap64 (x39 + 1))) else (none)) else (order_Looked.l1 k x0 x6 x38 (wrap64 (x39 + 1))))) else (some x6)
end
def order_Looked.f (k : Nat) (l0 : List (S78)) : Option (List Int) := order_Looked.l0 k l0 (-1) l0 (l0.length : Int) 0
def order_Looked.T5 : Bool × List (List Nat × List Nat) := (true, [([], []), ([0], [0]), ([1], [1]), ([2], [2]), ([3, 2], [2, 3]), ([4, 2, 2], [2, 4]), ([5], [5]), ([6, 5, 5], [5, 6]), ([5], [5]), ([5], [5]), ([8, 9, 5], [5, 8, 9]), ([10, 5], [5, 10]), ([11, 7, 5], [5, 11]), ([7, 12, 5], [5, 7, 12]), ([5, 13, 2], [2, 5, 13]), ([2, 14], [2, 14])])
def order_Looked.B5 : List Nat := [0, 1, 3, 7, 15, 31, 63, 127, 63, 63, 831, 1855, 4095, 8191, 16383, 32767]
theorem order_Looked.tab5 : rtab .any (opsOf Try.f58 5) = order_Looked.T5 := by kernel_rfl
theorem order_Looked.bits5 : waitsOk order_Looked.T5.2 order_Looked.B5 = true := by kernel_rfl
set_option maxHeartbeats 8000000 in
set_option maxRecDepth 100000 in
theorem order_Looked.calls (k : Nat) (A0 : Option Addr) (c0 : Nat) (l0 : List (S78)) (r : List Int) (w : World) (hr0 : Kd.C k78 w A0 l0.length l0) (hc0 : l0.length ≤ c0) (h : order_Looked.f k l0 = some r) :
  Calls Try.prog 58 #[.slice A0 l0.length c0] w fun e w' => ∃ v0_ : Value, e = .returned (v0_) ∧ Kd.R (Kd.int .i64) 3 w' w.heap.size (fun _ => True) v0_ r ∧ Below w.heap.size w w' := by
 have hu78 := Try.underlying78
 have HR0 := Az_.mk hr0
 have HC0 := Az_.mk hc0
 clear hr0 hc0
 have HB := Az_.mk (Below.refl w.heap.size w)
 have H : (order_Looked.l0 k l0 (-1) l0 (l0.length : Int) 0) = some r := h
 clear h
 have H' := Az_.mk H
 clear H
 go_enter Try.func58, Try.ntmps58
 go_wp2
 go_loopg [3, 10] k (fun kq v3 v10 w' => ∃ (x3_1 : Int) (x10_1 : Int), v3 = .int .i64 x3_1 ∧ v10 = .int .i64 x10_1 ∧ Az_ (order_Looked.l0 kq l0 x3_1 l0 (l0.length : Int) x10_1 = some r) ∧ Az_ (kq ≤ k) ∧ Az_ (Below w.heap.size w w'))
 case atStart => exact ⟨((-1)), (0), sq_, sq_, H', ⟨Nat.le_refl _⟩, ⟨bq_ HB⟩⟩
 case round =>
  clear H'
  obtain ⟨x3_1, x10_1, rfl, rfl, HA, HK1, HB⟩ := hrel
  cases gk with
  | zero => exact absurd HA.out (by simp [order_Looked.l0])
  | succ k1 =>
   have H := HA.out
   clear HA
   simp only [order_Looked.l0] at H
   by_cases c2 : x10_1 < (l0.length : Int)
   ·rw [if_pos c2] at H
    have c2b0 : decide (x10_1 < (l0.length : Int)) = true := decide_eq_true c2
    clear c2
    by_cases c3 : 0 ≤ x10_1
    ·rw [if_pos c3] at H
     have c3b0 : decide (0 ≤ x10_1) = true := decide_eq_true c3
     clear c3
     by_cases c4 : x10_1 < (l0.length : Int)
     ·rw [if_pos c4] at H
      have c4b0 : decide (x10_1 < (l0.length : Int)) = true := decide_eq_true c4
      clear c4
      obtain ⟨bq5, hbq5⟩ : ∃ b_ : Bool, b_ = ((rd_T78 l0 x10_1).f0) := ⟨_, rfl⟩
      replace H : (if bq5 = true then (if x3_1 < 0 then (order_Looked.l0 k1 l0 x10_1 l0 (l0.length : Int) (wrap64 (x10_1 + 1))) else ((order_weight.f (bq5) ((rd_T78 l0 x10_1).f1.f0) ((rd_T78 l0 x10_1).f1.f1) ((rd_T78 l0 x10_1).f2.f0) ((rd_T78 l0 x10_1).f2.f1)).bind fun t368 => (if 0 ≤ x3_1 then (if x3_1 < (l0.length : Int) then ((order_weight.f ((rd_T78 l0 x3_1).f0) ((rd_T78 l0 x3_1).f1.f0) ((rd_T78 l0 x3_1).f1.f1) ((rd_T78 l0 x3_1).f2.f0) ((rd_T78 l0 x3_1).f2.f1)).bind fun t370 => (if t368 > t370 then (order_Looked.l0 k1 l0 x10_1 l0 (l0.length : Int) (wrap64 (x10_1 + 1))) else (order_Looked.l0 k1 l0 x3_1 l0 (l0.length : Int) (wrap64 (x10_1 + 1))))) else (none)) else (none)))) else (order_Looked.l0 k1 l0 x3_1 l0 (l0.length : Int) (wrap64 (x10_1 + 1)))) = some r := by rw [← hbq5] at H; exact H
      have Nbq5 := Az_.mk hbq5
      clear hbq5
      by_cases c6 : bq5 = true
      ·subst c6
       have H1 : (if x3_1 < 0 then (order_Looked.l0 k1 l0 x10_1 l0 (l0.length : Int) (wrap64 (x10_1 + 1))) else ((order_weight.f (true) ((rd_T78 l0 x10_1).f1.f0) ((rd_T78 l0 x10_1).f1.f1) ((rd_T78 l0 x10_1).f2.f0) ((rd_T78 l0 x10_1).f2.f1)).bind fun t368 => (if 0 ≤ x3_1 then (if x3_1 < (l0.length : Int) then ((order_weight.f ((rd_T78 l0 x3_1).f0) ((rd_T78 l0 x3_1).f1.f0) ((rd_T78 l0 x3_1).f1.f1) ((rd_T78 l0 x3_1).f2.f0) ((rd_T78 l0 x3_1).f2.f1)).bind fun t370 => (if t368 > t370 then (order_Looked.l0 k1 l0 x10_1 l0 (l0.length : Int) (wrap64 (x10_1 + 1))) else (order_Looked.l0 k1 l0 x3_1 l0 (l0.length : Int) (wrap64 (x10_1 + 1))))) else (none)) else (none)))) = some r := by rw [if_pos rfl] at H; exact H
       clear H
       have H := H1
       clear H1
       by_cases c7 : x3_1 < 0
       ·rw [if_pos c7] at H
        have c7b0 : decide (x3_1 < 0) = true := decide_eq_true c7
        clear c7
        have H' := Az_.mk H
        clear H
        have p366 : 0 ≤ (x10_1 : Int) := of_decide_eq_true (by first | (with_reducible assumption) | assumption)
        have q366 : x10_1 < (l0.length : Int) := of_decide_eq_true (by first | (with_reducible assumption) | assumption)
        obtain ⟨ad366, A366_2, c366_2, A366_4, c366_4, e366, hx366_0, hx366_1, hx366_2, hx366_3, hx366_4, hl366_2, hi366_2, hl366_4, hi366_4⟩ := at_T78 HR0.out x10_1 p366 q366
        (try rw [← Nbq5.out] at hx366_0)
        cases e366
        replace hx366_0 := (HB.out.cell (World.block_lt_of_cell? w _ hx366_0)).trans hx366_0
        replace hx366_1 := (HB.out.cell (World.block_lt_of_cell? w _ hx366_1)).trans hx366_1
        replace hx366_2 := (HB.out.cell (World.block_lt_of_cell? w _ hx366_2)).trans hx366_2
        replace hx366_3 := (HB.out.cell (World.block_lt_of_cell? w _ hx366_3)).trans hx366_3
        replace hx366_4 := (HB.out.cell (World.block_lt_of_cell? w _ hx366_4)).trans hx366_4
        have HR366_2 := Az_.mk hi366_2
        have HC366_2 := Az_.mk hl366_2
        clear hi366_2 hl366_2
        have HR366_4 := Az_.mk hi366_4
        have HC366_4 := Az_.mk hl366_4
        clear hi366_4 hl366_4
        replace p366 := eq_true p366
        replace q366 := eq_true q366
        try go_wp2_with (first | ((with_reducible refine gate_dst (N := 5) rfl ?_); refine box_event ?hg (N := 5) ?hd (cs := #[.bool false, .int .i64 0, .slice none 0 0, .int .i64 0, .slice none 0 0]) (t := 78) ?hr ?_; (case hd => rfl); (case hg => rfl); (case hr => exact rq_); intro gb367 hg w8 hbox hb; have BK367 := Az_.mk (hbox); have GW367 := Az_.mk ((by rw [hg]; exact (bZ_ (bq_ HB)) : w.heap.size ≤ gb367)); have GE367 := Az_.mk ((by rw [hg]; exact (bZ_ (bq_ HB)) : w.heap.size ≤ gb367)); replace HB := Az_.mk (bT_ (bq_ HB) hb); clear hb hbox hg; obtain ⟨hcz9_0, hcz9_1, hcz9_2, hcz9_3, hcz9_4, hfz9_0, hfz9_1, hfz9_2, hfz9_3, hfz9_4⟩ := cz5_ BK367))
        have n0_ : Az_ ((((((w8.setCell ⟨gb367, 0, none⟩ (.bool true)).setCell ⟨gb367, 1, none⟩ (.int .i64 ((rd_T78 l0 x10_1).f1.f0))).setCell ⟨gb367, 2, none⟩ (.slice A366_2 ((rd_T78 l0 x10_1).f1.f1).length c366_2)).setCell ⟨gb367, 3, none⟩ (.int .i64 ((rd_T78 l0 x10_1).f2.f0))).setCell ⟨gb367, 4, none⟩ (.slice A366_4 ((rd_T78 l0 x10_1).f2.f1).length c366_4)).heap[gb367]? = some (.cells #[.bool true, .int .i64 ((rd_T78 l0 x10_1).f1.f0), .slice A366_2 ((rd_T78 l0 x10_1).f1.f1).length c366_2, .int .i64 ((rd_T78 l0 x10_1).f2.f0), .slice A366_4 ((rd_T78 l0 x10_1).f2.f1).length c366_4] 78 (0, 0))) := ⟨by (with_reducible repeat (first | refine kN_ ?_ _ | refine kD_ ?_ | refine kA_ ?_ _)); refine blk_put (cs := #[.bool true, .int .i64 ((rd_T78 l0 x10_1).f1.f0), .slice A366_2 ((rd_T78 l0 x10_1).f1.f1).length c366_2, .int .i64 ((rd_T78 l0 x10_1).f2.f0), .slice none 0 0]) ?_ 4 _ rfl; (with_reducible repeat (first | refine kN_ ?_ _ | refine kD_ ?_ | refine kA_ ?_ _)); refine blk_put (cs := #[.bool true, .int .i64 ((rd_T78 l0 x10_1).f1.f0), .slice A366_2 ((rd_T78 l0 x10_1).f1.f1).length c366_2, .int .i64 0, .slice none 0 0]) ?_ 3 _ rfl; (with_reducible repeat (first | refine kN_ ?_ _ | refine kD_ ?_ | refine kA_ ?_ _)); refine blk_put (cs := #[.bool true, .int .i64 ((rd_T78 l0 x10_1).f1.f0), .slice none 0 0, .int .i64 0, .slice none 0 0]) ?_ 2 _ rfl; (with_reducible repeat (first | refine kN_ ?_ _ | refine kD_ ?_ | refine kA_ ?_ _)); refine blk_put (cs := #[.bool true, .int .i64 0, .slice none 0 0, .int .i64 0, .slice none 0 0]) ?_ 1 _ rfl; (with_reducible repeat (first | refine kN_ ?_ _ | refine kD_ ?_ | refine kA_ ?_ _)); refine blk_put (cs := #[.bool false, .int .i64 0, .slice none 0 0, .int .i64 0, .slice none 0 0]) ?_ 0 _ rfl; (with_reducible repeat (first | refine kN_ ?_ _ | refine kD_ ?_ | refine kA_ ?_ _)); exact BK367.out⟩
        have n1_ : Az_ (Below w.heap.size w (((((w8.setCell ⟨gb367, 0, none⟩ (.bool true)).setCell ⟨gb367, 1, none⟩ (.int .i64 ((rd_T78 l0 x10_1).f1.f0))).setCell ⟨gb367, 2, none⟩ (.slice A366_2 ((rd_T78 l0 x10_1).f1.f1).length c366_2)).setCell ⟨gb367, 3, none⟩ (.int .i64 ((rd_T78 l0 x10_1).f2.f0))).setCell ⟨gb367, 4, none⟩ (.slice A366_4 ((rd_T78 l0 x10_1).f2.f1).length c366_4))) := ⟨bq1_ HB GE367⟩
        (try clear BK367)
        (try clear HB)
        generalize (((((w8.setCell ⟨gb367, 0, none⟩ (.bool true)).setCell ⟨gb367, 1, none⟩ (.int .i64 ((rd_T78 l0 x10_1).f1.f0))).setCell ⟨gb367, 2, none⟩ (.slice A366_2 ((rd_T78 l0 x10_1).f1.f1).length c366_2)).setCell ⟨gb367, 3, none⟩ (.int .i64 ((rd_T78 l0 x10_1).f2.f0))).setCell ⟨gb367, 4, none⟩ (.slice A366_4 ((rd_T78 l0 x10_1).f2.f1).length c366_4)) = w10 at n0_ n1_ ⊢
        have BK367 := n0_
        have HB := n1_
        clear n0_ n1_
        replace BK367 := Az_.mk (kD_ BK367.out)
        replace HB := Az_.mk (bD_ HB.out)
        refine start_ (n := 16) (S := fun w' => w'.cell? ⟨gb367, 0, none⟩ = some (.bool true) ∧ w'.cell? ⟨gb367, 1, none⟩ = some (.int .i64 ((rd_T78 l0 x10_1).f1.f0)) ∧ w'.cell? ⟨gb367, 2, none⟩ = some (.slice A366_2 ((rd_T78 l0 x10_1).f1.f1).length c366_2) ∧ w'.cell? ⟨gb367, 3, none⟩ = some (.int .i64 ((rd_T78 l0 x10_1).f2.f0)) ∧ w'.cell? ⟨gb367, 4, none⟩ = some (.slice A366_4 ((rd_T78 l0 x10_1).f2.f1).length c366_4)) (ds := []) #[false, false, false, false, false, false, false, false, false, false, false, false, false, false, false, false] (by kernel_rfl) rfl rfl ⟨(yaa_ BK367.out 0).trans rfl, (yaa_ BK367.out 1).trans rfl, (yaa_ BK367.out 2).trans rfl, (yaa_ BK367.out 3).trans rfl, (yaa_ BK367.out 4).trans rfl⟩ (fun hHeld => ?_); refine with_tabW order_Looked.tab5 order_Looked.bits5 (fun HT_ HW_ => ?_)
        generalize w10.drew = w11 at BK367 HB hHeld ⊢
        refine pa_ 0 15 HT_ ?_
        refine ta5_ 1 16 HT_ HW_ hHeld ?_
        refine pa_ 2 17 HT_ ?_
        refine pa_ 3 18 HT_ ?_
        refine pa_ 4 19 HT_ ?_
        refine pa_ 5 20 HT_ ?_
        refine pu_ 6 21 HT_ ?_
        refine pu_ 7 22 HT_ ?_
        refine pu_ 8 23 HT_ ?_
        refine pu_ 9 24 HT_ ?_
        refine pu_ 10 25 HT_ ?_
        refine pu_ 11 26 HT_ ?_
        refine pu_ 12 27 HT_ ?_
        refine pu_ 13 28 HT_ ?_
        refine pa_ 14 29 HT_ ?_
        refine pa_ 15 30 HT_ ?_
        refine done_ (done_of HT_.out (by kernel_rfl)) ?_
        try go_wp2
        go_roundg k1
        case measure => have := HK1.out; omega
        case rel => exact ⟨(x10_1), (wrap64 (x10_1 + 1)), sq_, sq_, H', ⟨by have := HK1.out; omega⟩, ⟨bq1_ HB GE367⟩⟩
       ·rw [if_neg c7] at H
        have c7b0 : decide (x3_1 < 0) = false := decide_eq_false c7
        clear c7
        replace H := Option.bind_eq_some_iff.mp H
        obtain ⟨t368, A120, H⟩ := H
        replace H : (if 0 ≤ x3_1 then (if x3_1 < (l0.length : Int) then ((order_weight.f ((rd_T78 l0 x3_1).f0) ((rd_T78 l0 x3_1).f1.f0) ((rd_T78 l0 x3_1).f1.f1) ((rd_T78 l0 x3_1).f2.f0) ((rd_T78 l0 x3_1).f2.f1)).bind fun t370 => (if t368 > t370 then (order_Looked.l0 k1 l0 x10_1 l0 (l0.length : Int) (wrap64 (x10_1 + 1))) else (order_Looked.l0 k1 l0 x3_1 l0 (l0.length : Int) (wrap64 (x10_1 + 1))))) else (none)) else (none)) = some r := H
        have A12 := Az_.mk A120
        clear A120
        by_cases c13 : 0 ≤ x3_1
        ·rw [if_pos c13] at H
         have c13b0 : decide (0 ≤ x3_1) = true := decide_eq_true c13
         clear c13
         by_cases c14 : x3_1 < (l0.length : Int)
         ·rw [if_pos c14] at H
          have c14b0 : decide (x3_1 < (l0.length : Int)) = true := decide_eq_true c14
          clear c14
          replace H := Option.bind_eq_some_iff.mp H
          obtain ⟨t370, A150, H⟩ := H
          replace H : (if t368 > t370 then (order_Looked.l0 k1 l0 x10_1 l0 (l0.length : Int) (wrap64 (x10_1 + 1))) else (order_Looked.l0 k1 l0 x3_1 l0 (l0.length : Int) (wrap64 (x10_1 + 1)))) = some r := H
          have A15 := Az_.mk A150
          clear A150
          by_cases c16 : t368 > t370
          ·rw [if_pos c16] at H
           have c16b0 : decide (t370 < t368) = true := decide_eq_true c16
           clear c16
           have H' := Az_.mk H
           clear H
           have p366 : 0 ≤ (x10_1 : Int) := of_decide_eq_true (by first | (with_reducible assumption) | assumption)
           have q366 : x10_1 < (l0.length : Int) := of_decide_eq_true (by first | (with_reducible assumption) | assumption)
           obtain ⟨ad366, A366_2, c366_2, A366_4, c366_4, e366, hx366_0, hx366_1, hx366_2, hx366_3, hx366_4, hl366_2, hi366_2, hl366_4, hi366_4⟩ := at_T78 HR0.out x10_1 p366 q366
           (try rw [← Nbq5.out] at hx366_0)
           cases e366
           replace hx366_0 := (HB.out.cell (World.block_lt_of_cell? w _ hx366_0)).trans hx366_0
           replace hx366_1 := (HB.out.cell (World.block_lt_of_cell? w _ hx366_1)).trans hx366_1
           replace hx366_2 := (HB.out.cell (World.block_lt_of_cell? w _ hx366_2)).trans hx366_2
           replace hx366_3 := (HB.out.cell (World.block_lt_of_cell? w _ hx366_3)).trans hx366_3
           replace hx366_4 := (HB.out.cell (World.block_lt_of_cell? w _ hx366_4)).trans hx366_4
           have HR366_2 := Az_.mk hi366_2
           have HC366_2 := Az_.mk hl366_2
           clear hi366_2 hl366_2
           have HR366_4 := Az_.mk hi366_4
           have HC366_4 := Az_.mk hl366_4
           clear hi366_4 hl366_4
           replace p366 := eq_true p366
           replace q366 := eq_true q366
           try go_wp2_with (first | ((with_reducible refine gate_dst (N := 5) rfl ?_); refine box_event ?hg (N := 5) ?hd (cs := #[.bool false, .int .i64 0, .slice none 0 0, .int .i64 0, .slice none 0 0]) (t := 78) ?hr ?_; (case hd => rfl); (case hg => rfl); (case hr => exact rq_); intro gb367 hg w17 hbox hb; have BK367 := Az_.mk (hbox); have GW367 := Az_.mk ((by rw [hg]; exact (bZ_ (bq_ HB)) : w.heap.size ≤ gb367)); have GE367 := Az_.mk ((by rw [hg]; exact (bZ_ (bq_ HB)) : w.heap.size ≤ gb367)); replace HB := Az_.mk (bT_ (bq_ HB) hb); clear hb hbox hg; obtain ⟨hcz18_0, hcz18_1, hcz18_2, hcz18_3, hcz18_4, hfz18_0, hfz18_1, hfz18_2, hfz18_3, hfz18_4⟩ := cz5_ BK367))
           have n0_ : Az_ ((((((w17.setCell ⟨gb367, 0, none⟩ (.bool true)).setCell ⟨gb367, 1, none⟩ (.int .i64 ((rd_T78 l0 x10_1).f1.f0))).setCell ⟨gb367, 2, none⟩ (.slice A366_2 ((rd_T78 l0 x10_1).f1.f1).length c366_2)).setCell ⟨gb367, 3, none⟩ (.int .i64 ((rd_T78 l0 x10_1).f2.f0))).setCell ⟨gb367, 4, none⟩ (.slice A366_4 ((rd_T78 l0 x10_1).f2.f1).length c366_4)).heap[gb367]? = some (.cells #[.bool true, .int .i64 ((rd_T78 l0 x10_1).f1.f0), .slice A366_2 ((rd_T78 l0 x10_1).f1.f1).length c366_2, .int .i64 ((rd_T78 l0 x10_1).f2.f0), .slice A366_4 ((rd_T78 l0 x10_1).f2.f1).length c366_4] 78 (0, 0))) := ⟨by (with_reducible repeat (first | refine kN_ ?_ _ | refine kD_ ?_ | refine kA_ ?_ _)); refine blk_put (cs := #[.bool true, .int .i64 ((rd_T78 l0 x10_1).f1.f0), .slice A366_2 ((rd_T78 l0 x10_1).f1.f1).length c366_2, .int .i64 ((rd_T78 l0 x10_1).f2.f0), .slice none 0 0]) ?_ 4 _ rfl; (with_reducible repeat (first | refine kN_ ?_ _ | refine kD_ ?_ | refine kA_ ?_ _)); refine blk_put (cs := #[.bool true, .int .i64 ((rd_T78 l0 x10_1).f1.f0), .slice A366_2 ((rd_T78 l0 x10_1).f1.f1).length c366_2, .int .i64 0, .slice none 0 0]) ?_ 3 _ rfl; (with_reducible repeat (first | refine kN_ ?_ _ | refine kD_ ?_ | refine kA_ ?_ _)); refine blk_put (cs := #[.bool true, .int .i64 ((rd_T78 l0 x10_1).f1.f0), .slice none 0 0, .int .i64 0, .slice none 0 0]) ?_ 2 _ rfl; (with_reducible repeat (first | refine kN_ ?_ _ | refine kD_ ?_ | refine kA_ ?_ _)); refine blk_put (cs := #[.bool true, .int .i64 0, .slice none 0 0, .int .i64 0, .slice none 0 0]) ?_ 1 _ rfl; (with_reducible repeat (first | refine kN_ ?_ _ | refine kD_ ?_ | refine kA_ ?_ _)); refine blk_put (cs := #[.bool false, .int .i64 0, .slice none 0 0, .int .i64 0, .slice none 0 0]) ?_ 0 _ rfl; (with_reducible repeat (first | refine kN_ ?_ _ | refine kD_ ?_ | refine kA_ ?_ _)); exact BK367.out⟩
           have n1_ : Az_ (Below w.heap.size w (((((w17.setCell ⟨gb367, 0, none⟩ (.bool true)).setCell ⟨gb367, 1, none⟩ (.int .i64 ((rd_T78 l0 x10_1).f1.f0))).setCell ⟨gb367, 2, none⟩ (.slice A366_2 ((rd_T78 l0 x10_1).f1.f1).length c366_2)).setCell ⟨gb367, 3, none⟩ (.int .i64 ((rd_T78 l0 x10_1).f2.f0))).setCell ⟨gb367, 4, none⟩ (.slice A366_4 ((rd_T78 l0 x10_1).f2.f1).length c366_4))) := ⟨bq1_ HB GE367⟩
           (try clear BK367)
           (try clear HB)
           generalize (((((w17.setCell ⟨gb367, 0, none⟩ (.bool true)).setCell ⟨gb367, 1, none⟩ (.int .i64 ((rd_T78 l0 x10_1).f1.f0))).setCell ⟨gb367, 2, none⟩ (.slice A366_2 ((rd_T78 l0 x10_1).f1.f1).length c366_2)).setCell ⟨gb367, 3, none⟩ (.int .i64 ((rd_T78 l0 x10_1).f2.f0))).setCell ⟨gb367, 4, none⟩ (.slice A366_4 ((rd_T78 l0 x10_1).f2.f1).length c366_4)) = w19 at n0_ n1_ ⊢
           have BK367 := n0_
           have HB := n1_
           clear n0_ n1_
           replace BK367 := Az_.mk (kD_ BK367.out)
           replace HB := Az_.mk (bD_ HB.out)
           have p369 : 0 ≤ (x3_1 : Int) := of_decide_eq_true (by first | (with_reducible assumption) | assumption)
           have q369 : x3_1 < (l0.length : Int) := of_decide_eq_true (by first | (with_reducible assumption) | assumption)
           obtain ⟨ad369, A369_2, c369_2, A369_4, c369_4, e369, hx369_0, hx369_1, hx369_2, hx369_3, hx369_4, hl369_2, hi369_2, hl369_4, hi369_4⟩ := at_T78 HR0.out x3_1 p369 q369
           have hw369_4 := hx369_4
           have hw369_3 := hx369_3
           have hw369_2 := hx369_2
           have hw369_1 := hx369_1
           have hw369_0 := hx369_0
           (try rw [← Nbq5.out] at hx369_0)
           obtain rfl : ad366 = ad369 := (by injection e369)
           replace hx369_0 := (HB.out.cell (World.block_lt_of_cell? w _ hx369_0)).trans hx369_0
           replace hx369_1 := (HB.out.cell (World.block_lt_of_cell? w _ hx369_1)).trans hx369_1
           replace hx369_2 := (HB.out.cell (World.block_lt_of_cell? w _ hx369_2)).trans hx369_2
           replace hx369_3 := (HB.out.cell (World.block_lt_of_cell? w _ hx369_3)).trans hx369_3
           replace hx369_4 := (HB.out.cell (World.block_lt_of_cell? w _ hx369_4)).trans hx369_4
           have HR369_2 := Az_.mk hi369_2
           have HC369_2 := Az_.mk hl369_2
           clear hi369_2 hl369_2
           have HR369_4 := Az_.mk hi369_4
           have HC369_4 := Az_.mk hl369_4
           clear hi369_4 hl369_4
           replace p369 := eq_true p369
           replace q369 := eq_true q369
           refine start_ (n := 16) (S := fun w' => w'.cell? ⟨gb367, 0, none⟩ = some (.bool true) ∧ w'.cell? ⟨gb367, 1, none⟩ = some (.int .i64 ((rd_T78 l0 x10_1).f1.f0)) ∧ w'.cell? ⟨gb367, 2, none⟩ = some (.slice A366_2 ((rd_T78 l0 x10_1).f1.f1).length c366_2) ∧ w'.cell? ⟨gb367, 3, none⟩ = some (.int .i64 ((rd_T78 l0 x10_1).f2.f0)) ∧ w'.cell? ⟨gb367, 4, none⟩ = some (.slice A366_4 ((rd_T78 l0 x10_1).f2.f1).length c366_4) ∧ w'.cell? (ad366.add ((x3_1).toNat * 5)) = some (.bool ((rd_T78 l0 x3_1).f0)) ∧ w'.cell? ⟨(ad366.add ((x3_1).toNat * 5)).block, (ad366.add ((x3_1).toNat * 5)).off + 1, none⟩ = some (.int .i64 ((rd_T78 l0 x3_1).f1.f0)) ∧ w'.cell? ⟨(ad366.add ((x3_1).toNat * 5)).block, (ad366.add ((x3_1).toNat * 5)).off + 2, none⟩ = some (.slice A369_2 ((rd_T78 l0 x3_1).f1.f1).length c369_2) ∧ w'.cell? ⟨(ad366.add ((x3_1).toNat * 5)).block, (ad366.add ((x3_1).toNat * 5)).off + 3, none⟩ = some (.int .i64 ((rd_T78 l0 x3_1).f2.f0)) ∧ w'.cell? ⟨(ad366.add ((x3_1).toNat * 5)).block, (ad366.add ((x3_1).toNat * 5)).off + 4, none⟩ = some (.slice A369_4 ((rd_T78 l0 x3_1).f2.f1).length c369_4)) (ds := []) #[false, false, false, false, false, false, false, false, false, false, false, false, false, false, false, false] (by kernel_rfl) rfl rfl ⟨(yaa_ BK367.out 0).trans rfl, (yaa_ BK367.out 1).trans rfl, (yaa_ BK367.out 2).trans rfl, (yaa_ BK367.out 3).trans rfl, (yaa_ BK367.out 4).trans rfl, ((HB.out.cell (World.block_lt_of_cell? w _ hw369_0)).trans hw369_0), ((HB.out.cell (World.block_lt_of_cell? w _ hw369_1)).trans hw369_1), ((HB.out.cell (World.block_lt_of_cell? w _ hw369_2)).trans hw369_2), ((HB.out.cell (World.block_lt_of_cell? w _ hw369_3)).trans hw369_3), ((HB.out.cell (World.block_lt_of_cell? w _ hw369_4)).trans hw369_4)⟩ (fun hHeld => ?_); refine with_tabW order_Looked.tab5 order_Looked.bits5 (fun HT_ HW_ => ?_)
           generalize w19.drew = w20 at BK367 HB HR369_2 HR369_4 hx369_0 hx369_1 hx369_2 hx369_3 hx369_4 hHeld ⊢
           refine pa_ 0 15 HT_ ?_
           refine ta10_ 1 16 HT_ HW_ hHeld ?_
           refine pa_ 2 17 HT_ ?_
           refine pa_ 3 18 HT_ ?_
           refine pa_ 4 19 HT_ ?_
           refine pa_ 5 20 HT_ ?_
           refine pa_ 8 23 HT_ ?_
           refine pa_ 9 24 HT_ ?_
           refine pa_ 10 25 HT_ ?_
           refine ta10_ 6 21 HT_ HW_ hHeld ?_
           refine ta10_ 11 26 HT_ HW_ hHeld ?_
           refine one_ (i := 7) (N := some 22) #[true, true, true, true, true, true, true, true, true, true, true, true, false, false, false, false] rfl rfl (one_of HT_.out (by kernel_rfl)) (by decide) (fun K hK => ?_)
           refine goes_ Try.func86 (by kernel_rfl) rfl #[.agg #[.bool true, .int .i64 ((rd_T78 l0 x10_1).f1.f0), .slice A366_2 ((rd_T78 l0 x10_1).f1.f1).length c366_2, .int .i64 ((rd_T78 l0 x10_1).f2.f0), .slice A366_4 ((rd_T78 l0 x10_1).f2.f1).length c366_4]] (by rfl) rfl rfl mq_ ?_
           with_reducible refine (order_weight.calls true ((rd_T78 l0 x10_1).f1.f0) _ _ ((rd_T78 l0 x10_1).f1.f1) ((rd_T78 l0 x10_1).f2.f0) _ _ ((rd_T78 l0 x10_1).f2.f1) t368 _ ?side1 ?side2 ?side3 ?side4 A12.out).mono ?_
           (case side1 => exact cq_ (Kd.C_below HR366_2.out HB.out))
           (case side2 => exact HC366_2.out)
           (case side3 => exact cq_ (Kd.C_below HR366_4.out HB.out))
           (case side4 => exact HC366_4.out)
           rintro e w21 ⟨rfl, hb⟩
           refine ⟨_, rfl, ?_⟩
           replace BK367 := kb_ BK367 hb
           replace HB := Az_.mk (bT_ (bq1_ HB GE367) hb)
           (try clear hb)
           (try clear hb2)
           (try clear hk)
           (try clear hi)
           refine hK.out _ _ ⟨(yaa_ BK367.out 0).trans rfl, (yaa_ BK367.out 1).trans rfl, (yaa_ BK367.out 2).trans rfl, (yaa_ BK367.out 3).trans rfl, (yaa_ BK367.out 4).trans rfl, ((HB.out.cell (World.block_lt_of_cell? w _ hw369_0)).trans hw369_0), ((HB.out.cell (World.block_lt_of_cell? w _ hw369_1)).trans hw369_1), ((HB.out.cell (World.block_lt_of_cell? w _ hw369_2)).trans hw369_2), ((HB.out.cell (World.block_lt_of_cell? w _ hw369_3)).trans hw369_3), ((HB.out.cell (World.block_lt_of_cell? w _ hw369_4)).trans hw369_4)⟩ (fun hHeld => ?_)
           clear hK K
           refine norm_ (a' := ?_) ?_ ?_
           rotate_left
           ·show Act.put _ (some 22) _ = _
            simp only [Act.put, sA_, sZ_, sS_, i64_w, i32_w]
            rfl
           refine one_ (i := 12) (N := some 27) #[true, true, true, true, true, true, true, true, true, true, true, true, true, false, false, false] rfl rfl (one_of HT_.out (by kernel_rfl)) (by decide) (fun K hK => ?_)
           refine goes_ Try.func86 (by kernel_rfl) rfl #[.agg #[.bool ((rd_T78 l0 x3_1).f0), .int .i64 ((rd_T78 l0 x3_1).f1.f0), .slice A369_2 ((rd_T78 l0 x3_1).f1.f1).length c369_2, .int .i64 ((rd_T78 l0 x3_1).f2.f0), .slice A369_4 ((rd_T78 l0 x3_1).f2.f1).length c369_4]] (by rfl) rfl rfl mq_ ?_
           with_reducible refine (order_weight.calls ((rd_T78 l0 x3_1).f0) ((rd_T78 l0 x3_1).f1.f0) _ _ ((rd_T78 l0 x3_1).f1.f1) ((rd_T78 l0 x3_1).f2.f0) _ _ ((rd_T78 l0 x3_1).f2.f1) t370 _ ?side1 ?side2 ?side3 ?side4 A15.out).mono ?_
           (case side1 => exact cq_ (Kd.C_below HR369_2.out HB.out))
           (case side2 => exact HC369_2.out)
           (case side3 => exact cq_ (Kd.C_below HR369_4.out HB.out))
           (case side4 => exact HC369_4.out)
           rintro e w22 ⟨rfl, hb⟩
           refine ⟨_, rfl, ?_⟩
           replace BK367 := kb_ BK367 hb
           replace HB := Az_.mk (bT_ (bq1_ HB GE367) hb)
           (try clear hb)
           (try clear hb2)
           (try clear hk)
           (try clear hi)
           refine hK.out _ _ ⟨(yaa_ BK367.out 0).trans rfl, (yaa_ BK367.out 1).trans rfl, (yaa_ BK367.out 2).trans rfl, (yaa_ BK367.out 3).trans rfl, (yaa_ BK367.out 4).trans rfl, ((HB.out.cell (World.block_lt_of_cell? w _ hw369_0)).trans hw369_0), ((HB.out.cell (World.block_lt_of_cell? w _ hw369_1)).trans hw369_1), ((HB.out.cell (World.block_lt_of_cell? w _ hw369_2)).trans hw369_2), ((HB.out.cell (World.block_lt_of_cell? w _ hw369_3)).trans hw369_3), ((HB.out.cell (World.block_lt_of_cell? w _ hw369_4)).trans hw369_4)⟩ (fun hHeld => ?_)
           clear hK K
           refine norm_ (a' := ?_) ?_ ?_
           rotate_left
           ·show Act.put _ (some 27) _ = _
            simp only [Act.put, sA_, sZ_, sS_, i64_w, i32_w]
            rfl
           refine pa_ 13 28 HT_ ?_
           refine pa_ 14 29 HT_ ?_
           refine pa_ 15 30 HT_ ?_
           refine done_ (done_of HT_.out (by kernel_rfl)) ?_
           try go_wp2
           go_roundg k1
           case measure => have := HK1.out; omega
           case rel => exact ⟨(x10_1), (wrap64 (x10_1 + 1)), sq_, sq_, H', ⟨by have := HK1.out; omega⟩, ⟨bq1_ HB GE367⟩⟩
          ·rw [if_neg c16] at H
           have c16b0 : decide (t370 < t368) = false := decide_eq_false c16
           clear c16
           have H' := Az_.mk H
           clear H
           have p366 : 0 ≤ (x10_1 : Int) := of_decide_eq_true (by first | (with_reducible assumption) | assumption)
           have q366 : x10_1 < (l0.length : Int) := of_decide_eq_true (by first | (with_reducible assumption) | assumption)
           obtain ⟨ad366, A366_2, c366_2, A366_4, c366_4, e366, hx366_0, hx366_1, hx366_2, hx366_3, hx366_4, hl366_2, hi366_2, hl366_4, hi366_4⟩ := at_T78 HR0.out x10_1 p366 q366
           (try rw [← Nbq5.out] at hx366_0)
           cases e366
           replace hx366_0 := (HB.out.cell (World.block_lt_of_cell? w _ hx366_0)).trans hx366_0
           replace hx366_1 := (HB.out.cell (World.block_lt_of_cell? w _ hx366_1)).trans hx366_1
           replace hx366_2 := (HB.out.cell (World.block_lt_of_cell? w _ hx366_2)).trans hx366_2
           replace hx366_3 := (HB.out.cell (World.block_lt_of_cell? w _ hx366_3)).trans hx366_3
           replace hx366_4 := (HB.out.cell (World.block_lt_of_cell? w _ hx366_4)).trans hx366_4
           have HR366_2 := Az_.mk hi366_2
           have HC366_2 := Az_.mk hl366_2
           clear hi366_2 hl366_2
           have HR366_4 := Az_.mk hi366_4
           have HC366_4 := Az_.mk hl366_4
           clear hi366_4 hl366_4
           replace p366 := eq_true p366
           replace q366 := eq_true q366
           try go_wp2_with (first | ((with_reducible refine gate_dst (N := 5) rfl ?_); refine box_event ?hg (N := 5) ?hd (cs := #[.bool false, .int .i64 0, .slice none 0 0, .int .i64 0, .slice none 0 0]) (t := 78) ?hr ?_; (case hd => rfl); (case hg => rfl); (case hr => exact rq_); intro gb367 hg w23 hbox hb; have BK367 := Az_.mk (hbox); have GW367 := Az_.mk ((by rw [hg]; exact (bZ_ (bq_ HB)) : w.heap.size ≤ gb367)); have GE367 := Az_.mk ((by rw [hg]; exact (bZ_ (bq_ HB)) : w.heap.size ≤ gb367)); replace HB := Az_.mk (bT_ (bq_ HB) hb); clear hb hbox hg; obtain ⟨hcz24_0, hcz24_1, hcz24_2, hcz24_3, hcz24_4, hfz24_0, hfz24_1, hfz24_2, hfz24_3, hfz24_4⟩ := cz5_ BK367))
           have n0_ : Az_ ((((((w23.setCell ⟨gb367, 0, none⟩ (.bool true)).setCell ⟨gb367, 1, none⟩ (.int .i64 ((rd_T78 l0 x10_1).f1.f0))).setCell ⟨gb367, 2, none⟩ (.slice A366_2 ((rd_T78 l0 x10_1).f1.f1).length c366_2)).setCell ⟨gb367, 3, none⟩ (.int .i64 ((rd_T78 l0 x10_1).f2.f0))).setCell ⟨gb367, 4, none⟩ (.slice A366_4 ((rd_T78 l0 x10_1).f2.f1).length c366_4)).heap[gb367]? = some (.cells #[.bool true, .int .i64 ((rd_T78 l0 x10_1).f1.f0), .slice A366_2 ((rd_T78 l0 x10_1).f1.f1).length c366_2, .int .i64 ((rd_T78 l0 x10_1).f2.f0), .slice A366_4 ((rd_T78 l0 x10_1).f2.f1).length c366_4] 78 (0, 0))) := ⟨by (with_reducible repeat (first | refine kN_ ?_ _ | refine kD_ ?_ | refine kA_ ?_ _)); refine blk_put (cs := #[.bool true, .int .i64 ((rd_T78 l0 x10_1).f1.f0), .slice A366_2 ((rd_T78 l0 x10_1).f1.f1).length c366_2, .int .i64 ((rd_T78 l0 x10_1).f2.f0), .slice none 0 0]) ?_ 4 _ rfl; (with_reducible repeat (first | refine kN_ ?_ _ | refine kD_ ?_ | refine kA_ ?_ _)); refine blk_put (cs := #[.bool true, .int .i64 ((rd_T78 l0 x10_1).f1.f0), .slice A366_2 ((rd_T78 l0 x10_1).f1.f1).length c366_2, .int .i64 0, .slice none 0 0]) ?_ 3 _ rfl; (with_reducible repeat (first | refine kN_ ?_ _ | refine kD_ ?_ | refine kA_ ?_ _)); refine blk_put (cs := #[.bool true, .int .i64 ((rd_T78 l0 x10_1).f1.f0), .slice none 0 0, .int .i64 0, .slice none 0 0]) ?_ 2 _ rfl; (with_reducible repeat (first | refine kN_ ?_ _ | refine kD_ ?_ | refine kA_ ?_ _)); refine blk_put (cs := #[.bool true, .int .i64 0, .slice none 0 0, .int .i64 0, .slice none 0 0]) ?_ 1 _ rfl; (with_reducible repeat (first | refine kN_ ?_ _ | refine kD_ ?_ | refine kA_ ?_ _)); refine blk_put (cs := #[.bool false, .int .i64 0, .slice none 0 0, .int .i64 0, .slice none 0 0]) ?_ 0 _ rfl; (with_reducible repeat (first | refine kN_ ?_ _ | refine kD_ ?_ | refine kA_ ?_ _)); exact BK367.out⟩
           have n1_ : Az_ (Below w.heap.size w (((((w23.setCell ⟨gb367, 0, none⟩ (.bool true)).setCell ⟨gb367, 1, none⟩ (.int .i64 ((rd_T78 l0 x10_1).f1.f0))).setCell ⟨gb367, 2, none⟩ (.slice A366_2 ((rd_T78 l0 x10_1).f1.f1).length c366_2)).setCell ⟨gb367, 3, none⟩ (.int .i64 ((rd_T78 l0 x10_1).f2.f0))).setCell ⟨gb367, 4, none⟩ (.slice A366_4 ((rd_T78 l0 x10_1).f2.f1).length c366_4))) := ⟨bq1_ HB GE367⟩
           (try clear BK367)
           (try clear HB)
           generalize (((((w23.setCell ⟨gb367, 0, none⟩ (.bool true)).setCell ⟨gb367, 1, none⟩ (.int .i64 ((rd_T78 l0 x10_1).f1.f0))).setCell ⟨gb367, 2, none⟩ (.slice A366_2 ((rd_T78 l0 x10_1).f1.f1).length c366_2)).setCell ⟨gb367, 3, none⟩ (.int .i64 ((rd_T78 l0 x10_1).f2.f0))).setCell ⟨gb367, 4, none⟩ (.slice A366_4 ((rd_T78 l0 x10_1).f2.f1).length c366_4)) = w25 at n0_ n1_ ⊢
           have BK367 := n0_
           have HB := n1_
           clear n0_ n1_
           replace BK367 := Az_.mk (kD_ BK367.out)
           replace HB := Az_.mk (bD_ HB.out)
           have p369 : 0 ≤ (x3_1 : Int) := of_decide_eq_true (by first | (with_reducible assumption) | assumption)
           have q369 : x3_1 < (l0.length : Int) := of_decide_eq_true (by first | (with_reducible assumption) | assumption)
           obtain ⟨ad369, A369_2, c369_2, A369_4, c369_4, e369, hx369_0, hx369_1, hx369_2, hx369_3, hx369_4, hl369_2, hi369_2, hl369_4, hi369_4⟩ := at_T78 HR0.out x3_1 p369 q369
           have hw369_4 := hx369_4
           have hw369_3 := hx369_3
           have hw369_2 := hx369_2
           have hw369_1 := hx369_1
           have hw369_0 := hx369_0
           (try rw [← Nbq5.out] at hx369_0)
           obtain rfl : ad366 = ad369 := (by injection e369)
           replace hx369_0 := (HB.out.cell (World.block_lt_of_cell? w _ hx369_0)).trans hx369_0
           replace hx369_1 := (HB.out.cell (World.block_lt_of_cell? w _ hx369_1)).trans hx369_1
           replace hx369_2 := (HB.out.cell (World.block_lt_of_cell? w _ hx369_2)).trans hx369_2
           replace hx369_3 := (HB.out.cell (World.block_lt_of_cell? w _ hx369_3)).trans hx369_3
           replace hx369_4 := (HB.out.cell (World.block_lt_of_cell? w _ hx369_4)).trans hx369_4
           have HR369_2 := Az_.mk hi369_2
           have HC369_2 := Az_.mk hl369_2
           clear hi369_2 hl369_2
           have HR369_4 := Az_.mk hi369_4
           have HC369_4 := Az_.mk hl369_4
           clear hi369_4 hl369_4
           replace p369 := eq_true p369
           replace q369 := eq_true q369
           refine start_ (n := 16) (S := fun w' => w'.cell? ⟨gb367, 0, none⟩ = some (.bool true) ∧ w'.cell? ⟨gb367, 1, none⟩ = some (.int .i64 ((rd_T78 l0 x10_1).f1.f0)) ∧ w'.cell? ⟨gb367, 2, none⟩ = some (.slice A366_2 ((rd_T78 l0 x10_1).f1.f1).length c366_2) ∧ w'.cell? ⟨gb367, 3, none⟩ = some (.int .i64 ((rd_T78 l0 x10_1).f2.f0)) ∧ w'.cell? ⟨gb367, 4, none⟩ = some (.slice A366_4 ((rd_T78 l0 x10_1).f2.f1).length c366_4) ∧ w'.cell? (ad366.add ((x3_1).toNat * 5)) = some (.bool ((rd_T78 l0 x3_1).f0)) ∧ w'.cell? ⟨(ad366.add ((x3_1).toNat * 5)).block, (ad366.add ((x3_1).toNat * 5)).off + 1, none⟩ = some (.int .i64 ((rd_T78 l0 x3_1).f1.f0)) ∧ w'.cell? ⟨(ad366.add ((x3_1).toNat * 5)).block, (ad366.add ((x3_1).toNat * 5)).off + 2, none⟩ = some (.slice A369_2 ((rd_T78 l0 x3_1).f1.f1).length c369_2) ∧ w'.cell? ⟨(ad366.add ((x3_1).toNat * 5)).block, (ad366.add ((x3_1).toNat * 5)).off + 3, none⟩ = some (.int .i64 ((rd_T78 l0 x3_1).f2.f0)) ∧ w'.cell? ⟨(ad366.add ((x3_1).toNat * 5)).block, (ad366.add ((x3_1).toNat * 5)).off + 4, none⟩ = some (.slice A369_4 ((rd_T78 l0 x3_1).f2.f1).length c369_4)) (ds := []) #[false, false, false, false, false, false, false, false, false, false, false, false, false, false, false, false] (by kernel_rfl) rfl rfl ⟨(yaa_ BK367.out 0).trans rfl, (yaa_ BK367.out 1).trans rfl, (yaa_ BK367.out 2).trans rfl, (yaa_ BK367.out 3).trans rfl, (yaa_ BK367.out 4).trans rfl, ((HB.out.cell (World.block_lt_of_cell? w _ hw369_0)).trans hw369_0), ((HB.out.cell (World.block_lt_of_cell? w _ hw369_1)).trans hw369_1), ((HB.out.cell (World.block_lt_of_cell? w _ hw369_2)).trans hw369_2), ((HB.out.cell (World.block_lt_of_cell? w _ hw369_3)).trans hw369_3), ((HB.out.cell (World.block_lt_of_cell? w _ hw369_4)).trans hw369_4)⟩ (fun hHeld => ?_); refine with_tabW order_Looked.tab5 order_Looked.bits5 (fun HT_ HW_ => ?_)
           generalize w25.drew = w26 at BK367 HB HR369_2 HR369_4 hx369_0 hx369_1 hx369_2 hx369_3 hx369_4 hHeld ⊢
           refine pa_ 0 15 HT_ ?_
           refine ta10_ 1 16 HT_ HW_ hHeld ?_
           refine pa_ 2 17 HT_ ?_
           refine pa_ 3 18 HT_ ?_
           refine pa_ 4 19 HT_ ?_
           refine pa_ 5 20 HT_ ?_
           refine pa_ 8 23 HT_ ?_
           refine pa_ 9 24 HT_ ?_
           refine pa_ 10 25 HT_ ?_
           refine ta10_ 6 21 HT_ HW_ hHeld ?_
           refine ta10_ 11 26 HT_ HW_ hHeld ?_
           refine one_ (i := 7) (N := some 22) #[true, true, true, true, true, true, true, true, true, true, true, true, false, false, false, false] rfl rfl (one_of HT_.out (by kernel_rfl)) (by decide) (fun K hK => ?_)
           refine goes_ Try.func86 (by kernel_rfl) rfl #[.agg #[.bool true, .int .i64 ((rd_T78 l0 x10_1).f1.f0), .slice A366_2 ((rd_T78 l0 x10_1).f1.f1).length c366_2, .int .i64 ((rd_T78 l0 x10_1).f2.f0), .slice A366_4 ((rd_T78 l0 x10_1).f2.f1).length c366_4]] (by rfl) rfl rfl mq_ ?_
           with_reducible refine (order_weight.calls true ((rd_T78 l0 x10_1).f1.f0) _ _ ((rd_T78 l0 x10_1).f1.f1) ((rd_T78 l0 x10_1).f2.f0) _ _ ((rd_T78 l0 x10_1).f2.f1) t368 _ ?side1 ?side2 ?side3 ?side4 A12.out).mono ?_
           (case side1 => exact cq_ (Kd.C_below HR366_2.out HB.out))
           (case side2 => exact HC366_2.out)
           (case side3 => exact cq_ (Kd.C_below HR366_4.out HB.out))
           (case side4 => exact HC366_4.out)
           rintro e w27 ⟨rfl, hb⟩
           refine ⟨_, rfl, ?_⟩
           replace BK367 := kb_ BK367 hb
           replace HB := Az_.mk (bT_ (bq1_ HB GE367) hb)
           (try clear hb)
           (try clear hb2)
           (try clear hk)
           (try clear hi)
           refine hK.out _ _ ⟨(yaa_ BK367.out 0).trans rfl, (yaa_ BK367.out 1).trans rfl, (yaa_ BK367.out 2).trans rfl, (yaa_ BK367.out 3).trans rfl, (yaa_ BK367.out 4).trans rfl, ((HB.out.cell (World.block_lt_of_cell? w _ hw369_0)).trans hw369_0), ((HB.out.cell (World.block_lt_of_cell? w _ hw369_1)).trans hw369_1), ((HB.out.cell (World.block_lt_of_cell? w _ hw369_2)).trans hw369_2), ((HB.out.cell (World.block_lt_of_cell? w _ hw369_3)).trans hw369_3), ((HB.out.cell (World.block_lt_of_cell? w _ hw369_4)).trans hw369_4)⟩ (fun hHeld => ?_)
           clear hK K
           refine norm_ (a' := ?_) ?_ ?_
           rotate_left
           ·show Act.put _ (some 22) _ = _
            simp only [Act.put, sA_, sZ_, sS_, i64_w, i32_w]
            rfl
           refine one_ (i := 12) (N := some 27) #[true, true, true, true, true, true, true, true, true, true, true, true, true, false, false, false] rfl rfl (one_of HT_.out (by kernel_rfl)) (by decide) (fun K hK => ?_)
           refine goes_ Try.func86 (by kernel_rfl) rfl #[.agg #[.bool ((rd_T78 l0 x3_1).f0), .int .i64 ((rd_T78 l0 x3_1).f1.f0), .slice A369_2 ((rd_T78 l0 x3_1).f1.f1).length c369_2, .int .i64 ((rd_T78 l0 x3_1).f2.f0), .slice A369_4 ((rd_T78 l0 x3_1).f2.f1).length c369_4]] (by rfl) rfl rfl mq_ ?_
           with_reducible refine (order_weight.calls ((rd_T78 l0 x3_1).f0) ((rd_T78 l0 x3_1).f1.f0) _ _ ((rd_T78 l0 x3_1).f1.f1) ((rd_T78 l0 x3_1).f2.f0) _ _ ((rd_T78 l0 x3_1).f2.f1) t370 _ ?side1 ?side2 ?side3 ?side4 A15.out).mono ?_
           (case side1 => exact cq_ (Kd.C_below HR369_2.out HB.out))
           (case side2 => exact HC369_2.out)
           (case side3 => exact cq_ (Kd.C_below HR369_4.out HB.out))
           (case side4 => exact HC369_4.out)
           rintro e w28 ⟨rfl, hb⟩
           refine ⟨_, rfl, ?_⟩
           replace BK367 := kb_ BK367 hb
           replace HB := Az_.mk (bT_ (bq1_ HB GE367) hb)
           (try clear hb)
           (try clear hb2)
           (try clear hk)
           (try clear hi)
           refine hK.out _ _ ⟨(yaa_ BK367.out 0).trans rfl, (yaa_ BK367.out 1).trans rfl, (yaa_ BK367.out 2).trans rfl, (yaa_ BK367.out 3).trans rfl, (yaa_ BK367.out 4).trans rfl, ((HB.out.cell (World.block_lt_of_cell? w _ hw369_0)).trans hw369_0), ((HB.out.cell (World.block_lt_of_cell? w _ hw369_1)).trans hw369_1), ((HB.out.cell (World.block_lt_of_cell? w _ hw369_2)).trans hw369_2), ((HB.out.cell (World.block_lt_of_cell? w _ hw369_3)).trans hw369_3), ((HB.out.cell (World.block_lt_of_cell? w _ hw369_4)).trans hw369_4)⟩ (fun hHeld => ?_)
           clear hK K
           refine norm_ (a' := ?_) ?_ ?_
           rotate_left
           ·show Act.put _ (some 27) _ = _
            simp only [Act.put, sA_, sZ_, sS_, i64_w, i32_w]
            rfl
           refine pa_ 13 28 HT_ ?_
           refine pa_ 14 29 HT_ ?_
           refine pa_ 15 30 HT_ ?_
           refine done_ (done_of HT_.out (by kernel_rfl)) ?_
           try go_wp2
           go_roundg k1
           case measure => have := HK1.out; omega
           case rel => exact ⟨(x3_1), (wrap64 (x10_1 + 1)), sq_, sq_, H', ⟨by have := HK1.out; omega⟩, ⟨bq1_ HB GE367⟩⟩
         ·rw [if_neg c14] at H
          exact absurd H (by simp)
        ·rw [if_neg c13] at H
         exact absurd H (by simp)
      ·replace c6 := Bool.eq_false_iff.mpr c6
       subst c6
       have H1 : (order_Looked.l0 k1 l0 x3_1 l0 (l0.length : Int) (wrap64 (x10_1 + 1))) = some r := by rw [if_neg (show ¬ (false = true) by decide)] at H; exact H
       clear H
       have H := H1
       clear H1
       have H' := Az_.mk H
       clear H
       have p366 : 0 ≤ (x10_1 : Int) := of_decide_eq_true (by first | (with_reducible assumption) | assumption)
       have q366 : x10_1 < (l0.length : Int) := of_decide_eq_true (by first | (with_reducible assumption) | assumption)
       obtain ⟨ad366, A366_2, c366_2, A366_4, c366_4, e366, hx366_0, hx366_1, hx366_2, hx366_3, hx366_4, hl366_2, hi366_2, hl366_4, hi366_4⟩ := at_T78 HR0.out x10_1 p366 q366
       (try rw [← Nbq5.out] at hx366_0)
       cases e366
       replace hx366_0 := (HB.out.cell (World.block_lt_of_cell? w _ hx366_0)).trans hx366_0
       replace hx366_1 := (HB.out.cell (World.block_lt_of_cell? w _ hx366_1)).trans hx366_1
       replace hx366_2 := (HB.out.cell (World.block_lt_of_cell? w _ hx366_2)).trans hx366_2
       replace hx366_3 := (HB.out.cell (World.block_lt_of_cell? w _ hx366_3)).trans hx366_3
       replace hx366_4 := (HB.out.cell (World.block_lt_of_cell? w _ hx366_4)).trans hx366_4
       have HR366_2 := Az_.mk hi366_2
       have HC366_2 := Az_.mk hl366_2
       clear hi366_2 hl366_2
       have HR366_4 := Az_.mk hi366_4
       have HC366_4 := Az_.mk hl366_4
       clear hi366_4 hl366_4
       replace p366 := eq_true p366
       replace q366 := eq_true q366
       try go_wp2_with (first | ((with_reducible refine gate_dst (N := 5) rfl ?_); refine box_event ?hg (N := 5) ?hd (cs := #[.bool false, .int .i64 0, .slice none 0 0, .int .i64 0, .slice none 0 0]) (t := 78) ?hr ?_; (case hd => rfl); (case hg => rfl); (case hr => exact rq_); intro gb367 hg w29 hbox hb; have BK367 := Az_.mk (hbox); have GW367 := Az_.mk ((by rw [hg]; exact (bZ_ (bq_ HB)) : w.heap.size ≤ gb367)); have GE367 := Az_.mk ((by rw [hg]; exact (bZ_ (bq_ HB)) : w.heap.size ≤ gb367)); replace HB := Az_.mk (bT_ (bq_ HB) hb); clear hb hbox hg; obtain ⟨hcz30_0, hcz30_1, hcz30_2, hcz30_3, hcz30_4, hfz30_0, hfz30_1, hfz30_2, hfz30_3, hfz30_4⟩ := cz5_ BK367))
       have n0_ : Az_ ((((((w29.setCell ⟨gb367, 0, none⟩ (.bool false)).setCell ⟨gb367, 1, none⟩ (.int .i64 ((rd_T78 l0 x10_1).f1.f0))).setCell ⟨gb367, 2, none⟩ (.slice A366_2 ((rd_T78 l0 x10_1).f1.f1).length c366_2)).setCell ⟨gb367, 3, none⟩ (.int .i64 ((rd_T78 l0 x10_1).f2.f0))).setCell ⟨gb367, 4, none⟩ (.slice A366_4 ((rd_T78 l0 x10_1).f2.f1).length c366_4)).heap[gb367]? = some (.cells #[.bool false, .int .i64 ((rd_T78 l0 x10_1).f1.f0), .slice A366_2 ((rd_T78 l0 x10_1).f1.f1).length c366_2, .int .i64 ((rd_T78 l0 x10_1).f2.f0), .slice A366_4 ((rd_T78 l0 x10_1).f2.f1).length c366_4] 78 (0, 0))) := ⟨by (with_reducible repeat (first | refine kN_ ?_ _ | refine kD_ ?_ | refine kA_ ?_ _)); refine blk_put (cs := #[.bool false, .int .i64 ((rd_T78 l0 x10_1).f1.f0), .slice A366_2 ((rd_T78 l0 x10_1).f1.f1).length c366_2, .int .i64 ((rd_T78 l0 x10_1).f2.f0), .slice none 0 0]) ?_ 4 _ rfl; (with_reducible repeat (first | refine kN_ ?_ _ | refine kD_ ?_ | refine kA_ ?_ _)); refine blk_put (cs := #[.bool false, .int .i64 ((rd_T78 l0 x10_1).f1.f0), .slice A366_2 ((rd_T78 l0 x10_1).f1.f1).length c366_2, .int .i64 0, .slice none 0 0]) ?_ 3 _ rfl; (with_reducible repeat (first | refine kN_ ?_ _ | refine kD_ ?_ | refine kA_ ?_ _)); refine blk_put (cs := #[.bool false, .int .i64 ((rd_T78 l0 x10_1).f1.f0), .slice none 0 0, .int .i64 0, .slice none 0 0]) ?_ 2 _ rfl; (with_reducible repeat (first | refine kN_ ?_ _ | refine kD_ ?_ | refine kA_ ?_ _)); refine blk_put (cs := #[.bool false, .int .i64 0, .slice none 0 0, .int .i64 0, .slice none 0 0]) ?_ 1 _ rfl; (with_reducible repeat (first | refine kN_ ?_ _ | refine kD_ ?_ | refine kA_ ?_ _)); refine blk_put (cs := #[.bool false, .int .i64 0, .slice none 0 0, .int .i64 0, .slice none 0 0]) ?_ 0 _ rfl; (with_reducible repeat (first | refine kN_ ?_ _ | refine kD_ ?_ | refine kA_ ?_ _)); exact BK367.out⟩
       have n1_ : Az_ (Below w.heap.size w (((((w29.setCell ⟨gb367, 0, none⟩ (.bool false)).setCell ⟨gb367, 1, none⟩ (.int .i64 ((rd_T78 l0 x10_1).f1.f0))).setCell ⟨gb367, 2, none⟩ (.slice A366_2 ((rd_T78 l0 x10_1).f1.f1).length c366_2)).setCell ⟨gb367, 3, none⟩ (.int .i64 ((rd_T78 l0 x10_1).f2.f0))).setCell ⟨gb367, 4, none⟩ (.slice A366_4 ((rd_T78 l0 x10_1).f2.f1).length c366_4))) := ⟨bq1_ HB GE367⟩
       (try clear BK367)
       (try clear HB)
       generalize (((((w29.setCell ⟨gb367, 0, none⟩ (.bool false)).setCell ⟨gb367, 1, none⟩ (.int .i64 ((rd_T78 l0 x10_1).f1.f0))).setCell ⟨gb367, 2, none⟩ (.slice A366_2 ((rd_T78 l0 x10_1).f1.f1).length c366_2)).setCell ⟨gb367, 3, none⟩ (.int .i64 ((rd_T78 l0 x10_1).f2.f0))).setCell ⟨gb367, 4, none⟩ (.slice A366_4 ((rd_T78 l0 x10_1).f2.f1).length c366_4)) = w31 at n0_ n1_ ⊢
       have BK367 := n0_
       have HB := n1_
       clear n0_ n1_
       replace BK367 := Az_.mk (kD_ BK367.out)
       replace HB := Az_.mk (bD_ HB.out)
       refine start_ (n := 16) (S := fun w' => w'.cell? ⟨gb367, 0, none⟩ = some (.bool false) ∧ w'.cell? ⟨gb367, 1, none⟩ = some (.int .i64 ((rd_T78 l0 x10_1).f1.f0)) ∧ w'.cell? ⟨gb367, 2, none⟩ = some (.slice A366_2 ((rd_T78 l0 x10_1).f1.f1).length c366_2) ∧ w'.cell? ⟨gb367, 3, none⟩ = some (.int .i64 ((rd_T78 l0 x10_1).f2.f0)) ∧ w'.cell? ⟨gb367, 4, none⟩ = some (.slice A366_4 ((rd_T78 l0 x10_1).f2.f1).length c366_4)) (ds := []) #[false, false, false, false, false, false, false, false, false, false, false, false, false, false, false, false] (by kernel_rfl) rfl rfl ⟨(yaa_ BK367.out 0).trans rfl, (yaa_ BK367.out 1).trans rfl, (yaa_ BK367.out 2).trans rfl, (yaa_ BK367.out 3).trans rfl, (yaa_ BK367.out 4).trans rfl⟩ (fun hHeld => ?_); refine with_tabW order_Looked.tab5 order_Looked.bits5 (fun HT_ HW_ => ?_)
       generalize w31.drew = w32 at BK367 HB hHeld ⊢
       refine pa_ 0 15 HT_ ?_
       refine ta5_ 1 16 HT_ HW_ hHeld ?_
       refine pa_ 2 17 HT_ ?_
       refine pu_ 3 18 HT_ ?_
       refine pu_ 4 19 HT_ ?_
       refine pu_ 5 20 HT_ ?_
       refine pu_ 6 21 HT_ ?_
       refine pu_ 7 22 HT_ ?_
       refine pu_ 8 23 HT_ ?_
       refine pu_ 9 24 HT_ ?_
       refine pu_ 10 25 HT_ ?_
       refine pu_ 11 26 HT_ ?_
       refine pu_ 12 27 HT_ ?_
       refine pu_ 13 28 HT_ ?_
       refine pu_ 14 29 HT_ ?_
       refine pa_ 15 30 HT_ ?_
       refine done_ (done_of HT_.out (by kernel_rfl)) ?_
       try go_wp2
       go_roundg k1
       case measure => have := HK1.out; omega
       case rel => exact ⟨(x3_1), (wrap64 (x10_1 + 1)), sq_, sq_, H', ⟨by have := HK1.out; omega⟩, ⟨bq1_ HB GE367⟩⟩
     ·rw [if_neg c4] at H
      exact absurd H (by simp)
    ·rw [if_neg c3] at H
     exact absurd H (by simp)
   ·rw [if_neg c2] at H
    have c2b0 : decide (x10_1 < (l0.length : Int)) = false := decide_eq_false c2
    clear c2
    by_cases c33 : x3_1 ≥ 0
    ·rw [if_pos c33] at H
     have c33b0 : decide (0 ≤ x3_1) = true := decide_eq_true c33
     clear c33
     obtain ⟨y371, hy371⟩ : ∃ y_ : List Int, y_ = (([x3_1] : List Int)) := ⟨_, rfl⟩
     replace H : (some y371) = some r := by first | (rw [hy371]; with_reducible exact H) | (have H2_ := (Option.bind_some _ _).symm.trans H; rw [hy371]; with_reducible exact H2_) | (have H2_ := (Option.bind_some _ _).symm.trans H; with_reducible exact H2_) | with_reducible exact H | (rw [hy371]; exact H) | exact H
     have Ny371 := Az_.mk hy371
     clear hy371
     obtain rfl := Option.some.inj H
     go_wp2_with (first | ((with_reducible refine gate_dst (N := 36) rfl ?_); refine Kd.R_lit (Kd.int .i64) _ 3 ?hg (N := 36) ?hd (xs := ([x3_1] : List Int)) (inner := [.int .i64 x3_1]) (ok := fun _ => True) (okp := fun _ => True) ?hr ?hp (fun _ hk => hk) trivial (Below.refl _ _) (Nat.le_refl _) (by simp) ?_; (case hd => rfl); (case hg => rfl); (case hr => exact rq_); (case hp => exact (Reps.one (show Kd.M (Kd.int .i64) _ _ _ x3_1 [.int .i64 x3_1] from rfl) (Reps.none _ _))); intro v372 w34 ho35 hb hg_ hnew_; clear hg_ hnew_; (first | rw [← Ny371.out] at ho35 | (simp only [Int.reduceToNat] at ho35; rw [← Ny371.out] at ho35)); have HO373 := Az_.mk (Kd.R_lower ho35 (bZ_ (bq_ HB))); replace HB := Az_.mk (bT_ (bq_ HB) hb); clear hb ho35))
     go_ret
     exact ⟨_, by first | rfl | (simp [yae_, yad_] <;> rfl) | (simp [*, yae_, yad_] <;> rfl), by (with_reducible repeat (first | apply Kd.R_alloc | apply Kd.R_drewN | apply Kd.R_drew)); exact HO373.out, bq_ HB⟩
    ·rw [if_neg c33] at H
     have c33b0 : decide (0 ≤ x3_1) = false := decide_eq_false c33
     clear c33
     have H' := Az_.mk H
     clear H
     go_wp2
     go_loopg [6, 39] k1 (fun kq v6 v39 w' => ∃ (x6_2 : List Int) (x39_2 : Int), v39 = .int .i64 x39_2 ∧ Az_ (order_Looked.l1 kq l0 x6_2 (l0.length : Int) x39_2 = some r) ∧ Az_ (kq ≤ k1) ∧ Az_ (Kd.R (Kd.int .i64) 3 w' w.heap.size (fun _ => True) v6 x6_2) ∧ Az_ (Below w.heap.size w w'))
     case atStart => exact ⟨(([] : List Int)), (0), sq_, H', ⟨Nat.le_refl _⟩, ⟨by first | exact Kd.R_nil _ _ _ _ _ | exact Kd.N_nil _ _ _ _ _ | exact Kd.V_nil _ _ _ _ _ | exact Kd.Q_nil _ _ _ _ _ | exact Kd.S_nil _ _ _ _ _⟩, ⟨bq_ HB⟩⟩
     case round =>
      clear H'
      try clear c1
      try clear c2
      try clear c2b0
      try clear p2
      try clear c3
      try clear p3
      try clear q3
      try clear hx3
      try clear c4
      try clear q5
      try clear c6
      try clear p6
      try clear c8
      try clear c13
      try clear c14
      try clear c16
      try clear c16b0
      try clear c33
      try clear c33b0
      try clear hcz24_0
      try clear hcz24_1
      try clear hcz24_2
      try clear hcz24_3
      try clear hcz24_4
      try clear hcz30_0
      try clear hcz30_1
      try clear hcz30_2
      try clear hcz30_3
      try clear hcz30_4
      try clear hfz24_0
      try clear hfz24_1
      try clear hfz24_2
      try clear hfz24_3
      try clear hfz24_4
      try clear hfz30_0
      try clear hfz30_1
      try clear hfz30_2
      try clear hfz30_3
      try clear hfz30_4
      try clear hx366_0
      try clear hx366_1
      try clear hx366_2
      try clear hx366_3
      try clear hx366_4
      try clear hx369_0
      try clear hx369_1
      try clear hx369_2
      try clear hx369_3
      try clear hx369_4
      try clear p366
      try clear p369
      try clear q366
      try clear q369
      obtain ⟨x6_2, x39_2, rfl, HA, HK2, HO_6, HB⟩ := hrel
      cases gk with
      | zero => exact absurd HA.out (by simp [order_Looked.l1])
      | succ k2 =>
       have H := HA.out
       clear HA
       simp only [order_Looked.l1] at H
       by_cases c36 : x39_2 < (l0.length : Int)
       ·rw [if_pos c36] at H
        have c36b0 : decide (x39_2 < (l0.length : Int)) = true := decide_eq_true c36
        clear c36
        replace H := Option.bind_eq_some_iff.mp H
        obtain ⟨t374, A370, H⟩ := H
        replace H : (if t374 = true then (if x6_2.length < 17592186044416 then (order_Looked.l1 k2 l0 (x6_2 ++ [x39_2]) (l0.length : Int) (wrap64 (x39_2 + 1))) else (none)) else (order_Looked.l1 k2 l0 x6_2 (l0.length : Int) (wrap64 (x39_2 + 1)))) = some r := H
        have A37 := Az_.mk A370
        clear A370
        by_cases c38 : t374 = true
        ·subst c38
         have H1 : (if x6_2.length < 17592186044416 then (order_Looked.l1 k2 l0 (x6_2 ++ [x39_2]) (l0.length : Int) (wrap64 (x39_2 + 1))) else (none)) = some r := by rw [if_pos rfl] at H; exact H
         clear H
         have H := H1
         clear H1
         by_cases c39 : x6_2.length < 17592186044416
         ·rw [if_pos c39] at H
          have LMc39 := Az_.mk c39
          clear c39
          obtain ⟨y375, hy375⟩ : ∃ y_ : List Int, y_ = (x6_2 ++ [x39_2]) := ⟨_, rfl⟩
          replace H : (order_Looked.l1 k2 l0 y375 (l0.length : Int) (wrap64 (x39_2 + 1))) = some r := by first | (rw [hy375]; with_reducible exact H) | (have H2_ := (Option.bind_some _ _).symm.trans H; rw [hy375]; with_reducible exact H2_) | (have H2_ := (Option.bind_some _ _).symm.trans H; with_reducible exact H2_) | with_reducible exact H | (rw [hy375]; exact H) | exact H
          have Ny375 := Az_.mk hy375
          clear hy375
          have H' := Az_.mk H
          clear H
          go_wp2_with (first | ((with_reducible refine yaf_ (f := 59) rfl ?_); refine goesL_ (some 44) rfl rfl Try.func59 (by kernel_rfl) rfl #[.slice A0 l0.length c0, .int .i64 x39_2] rfl mq_ ?_; (with_reducible refine (order_Greatest.calls _ _ l0 x39_2 true _ ?side1 ?side2 A37.out).mono ?_); (case side1 => exact cq_ (Kd.C_below HR0.out HB.out)); (case side2 => exact HC0.out); rintro e w40 ⟨rfl, hb⟩; refine ⟨_, rfl, ?_⟩; replace HO_6 := Az_.mk (Kd.R_below (rr_ HO_6) hb); replace HB := Az_.mk (bT_ (bq_ HB) hb); (try clear hb); (try clear hb2); (try clear hk); (try clear hi)) | ((with_reducible refine gate_builtin (b := .append) (xs := #[.tmp 45, .tmp 47]) rfl ?_); at_builtin; refine Kd.R_append (Kd.int .i64) (w0 := w) w.heap.size rfl (.tmp 45) (.tmp 47) 25 3 (.int .i64 0) 8 rfl Try.underlying25 info3 rfl (by decide) (by omega) u6 x6_2 x39_2 [.int .i64 x39_2] (fun _ => True) (fun _ => False) rfl rfl ?aP (fun _ hk => hk.elim) ?aF ?aO ?aB ?aS ?aL ?_; (case aP => exact rfl); (case aB => exact (bq_ HB)); (case aF => exact (fun _ _ => trivial)); (case aO => exact (rr_ HO_6)); (case aS => exact (bZ_ (bq_ HB))); (case aL => have := LMc39.out; omega); intro v376 w41 ho hb hg hat; rw [← Ny375.out] at ho; have n0_ := Az_.mk (hb); have n1_ := Az_.mk (ho); clear HB; clear HO_6; have HB := n0_; have HO377 := n1_; clear n0_ n1_; clear ho hb hg hat))
          go_roundg k2
          case measure => have := HK1.out; have := HK2.out; omega
          case rel => exact ⟨(y375), (wrap64 (x39_2 + 1)), sq_, H', ⟨by have := HK1.out; have := HK2.out; omega⟩, ⟨by (with_reducible repeat (first | apply Kd.R_alloc | apply Kd.R_drewN | apply Kd.R_drew)); exact HO377.out⟩, ⟨bq_ HB⟩⟩
         ·rw [if_neg c39] at H
          exact absurd H (by simp)
        ·replace c38 := Bool.eq_false_iff.mpr c38
         subst c38
         have H1 : (order_Looked.l1 k2 l0 x6_2 (l0.length : Int) (wrap64 (x39_2 + 1))) = some r := by rw [if_neg (show ¬ (false = true) by decide)] at H; exact H
         clear H
         have H := H1
         clear H1
         have H' := Az_.mk H
         clear H
         go_wp2_with (first | ((with_reducible refine yaf_ (f := 59) rfl ?_); refine goesL_ (some 44) rfl rfl Try.func59 (by kernel_rfl) rfl #[.slice A0 l0.length c0, .int .i64 x39_2] rfl mq_ ?_; (with_reducible refine (order_Greatest.calls _ _ l0 x39_2 false _ ?side1 ?side2 A37.out).mono ?_); (case side1 => exact cq_ (Kd.C_below HR0.out HB.out)); (case side2 => exact HC0.out); rintro e w42 ⟨rfl, hb⟩; refine ⟨_, rfl, ?_⟩; replace HO_6 := Az_.mk (Kd.R_below (rr_ HO_6) hb); replace HB := Az_.mk (bT_ (bq_ HB) hb); (try clear hb); (try clear hb2); (try clear hk); (try clear hi)))
         go_roundg k2
         case measure => have := HK1.out; have := HK2.out; omega
         case rel => exact ⟨(x6_2), (wrap64 (x39_2 + 1)), sq_, H', ⟨by have := HK1.out; have := HK2.out; omega⟩, ⟨by (with_reducible repeat (first | apply Kd.R_alloc | apply Kd.R_drewN | apply Kd.R_drew)); exact HO_6.out⟩, ⟨bq_ HB⟩⟩
       ·rw [if_neg c36] at H
        have c36b0 : decide (x39_2 < (l0.length : Int)) = false := decide_eq_false c36
        clear c36
        obtain rfl := Option.some.inj H
        go_wp2
        go_ret
        exact ⟨_, by first | rfl | (simp [yae_, yad_] <;> rfl) | (simp [*, yae_, yad_] <;> rfl), by (with_reducible repeat (first | apply Kd.R_alloc | apply Kd.R_drewN | apply Kd.R_drew)); exact HO_6.out, bq_ HB⟩
end
section
attribute [local go_sem] max2_int min2_int max_two min_two max_three min_three max_four min_four
def soriteslaw14_alive.f (k : Nat)  : Option (Bool) := (order_Looked.f k (([(⟨false, (⟨1, ([] : List (S30))⟩ : S30), (⟨0, ([] : List (S30))⟩ : S30)⟩ : S78), (⟨true, (⟨2, ([] : List (S30))⟩ : S30), (⟨0, ([] : List (S30))⟩ : S30)⟩ : S78)] : List (S78)))).bind fun t381 => (if (t381.length : Int) = 1 then (if 0 < (t381.length : Int) then (if (rd t381 0) = 1 then ((order_Looked.f k ([] : List (S78))).bind fun t385 => (some ((t385.length : Int) == 0))) else (some false)) else (none)) else (some false))
set_option maxHeartbeats 8000000 in
set_option maxRecDepth 100000 in
theorem soriteslaw14_alive.calls (k : Nat)  (r : Bool) (w : World) (h : soriteslaw14_alive.f k  = some r) :
  Calls Try.prog 54 #[] w fun e w' => e = .returned (.bool r) ∧ Below w.heap.size w w' := by
 have hu30 := Try.underlying30
 have hu78 := Try.underlying78
 have HB := Az_.mk (Below.refl w.heap.size w)
 have H : ((order_Looked.f k (([(⟨false, (⟨1, ([] : List (S30))⟩ : S30), (⟨0, ([] : List (S30))⟩ : S30)⟩ : S78), (⟨true, (⟨2, ([] : List (S30))⟩ : S30), (⟨0, ([] : List (S30))⟩ : S30)⟩ : S78)] : List (S78)))).bind fun t381 => (if (t381.length : Int) = 1 then (if 0 < (t381.length : Int) then (if (rd t381 0) = 1 then ((order_Looked.f k ([] : List (S78))).bind fun t385 => (some ((t385.length : Int) == 0))) else (some false)) else (none)) else (some false))) = some r := h
 clear h
 obtain ⟨y378, hy378⟩ : ∃ y_ : List (S78), y_ = (([(⟨false, (⟨1, ([] : List (S30))⟩ : S30), (⟨0, ([] : List (S30))⟩ : S30)⟩ : S78), (⟨true, (⟨2, ([] : List (S30))⟩ : S30), (⟨0, ([] : List (S30))⟩ : S30)⟩ : S78)] : List (S78))) := ⟨_, rfl⟩
 replace H : ((order_Looked.f k y378).bind fun t381 => (if (t381.length : Int) = 1 then (if 0 < (t381.length : Int) then (if (rd t381 0) = 1 then ((order_Looked.f k ([] : List (S78))).bind fun t385 => (some ((t385.length : Int) == 0))) else (some false)) else (none)) else (some false))) = some r := by first | (rw [hy378]; with_reducible exact H) | (have H2_ := (Option.bind_some _ _).symm.trans H; rw [hy378]; with_reducible exact H2_) | (have H2_ := (Option.bind_some _ _).symm.trans H; with_reducible exact H2_) | with_reducible exact H | (rw [hy378]; exact H) | exact H
 have Ny378 := Az_.mk hy378
 clear hy378
 replace H := Option.bind_eq_some_iff.mp H
 obtain ⟨t381, A10, H⟩ := H
 replace H : (if (t381.length : Int) = 1 then (if 0 < (t381.length : Int) then (if (rd t381 0) = 1 then ((order_Looked.f k ([] : List (S78))).bind fun t385 => (some ((t385.length : Int) == 0))) else (some false)) else (none)) else (some false)) = some r := H
 have A1 := Az_.mk A10
 clear A10
 by_cases c2 : (t381.length : Int) = 1
 ·rw [if_pos c2] at H
  have c2b0 : ((t381.length : Int) == 1) = true := beq_iff_eq.mpr c2
  have c2b1 : ((t381.length : Int) != 1) = false := bne_eq_false_iff_eq.mpr c2
  clear c2
  by_cases c3 : 0 < (t381.length : Int)
  ·rw [if_pos c3] at H
   have c3b0 : decide (0 < (t381.length : Int)) = true := decide_eq_true c3
   have c3b1 : decide (0 < t381.length) = true := decide_eq_true (by omega)
   clear c3
   by_cases c4 : (rd t381 0) = 1
   ·rw [if_pos c4] at H
    have c4b0 : ((rd t381 0) == 1) = true := beq_iff_eq.mpr c4
    have c4b1 : ((rd t381 0) != 1) = false := bne_eq_false_iff_eq.mpr c4
    clear c4
    replace H := Option.bind_eq_some_iff.mp H
    obtain ⟨t385, A50, H⟩ := H
    replace H : (some ((t385.length : Int) == 0)) = some r := H
    have A5 := Az_.mk A50
    clear A50
    obtain rfl := Option.some.inj H
    go_enter Try.func54, Try.ntmps54
    go_wp2_with (first | ((with_reducible refine gate_dst (N := 6) rfl ?_); (try (refine gate_guard (by rfl) ?_; dsimp only)); refine Kd.R_lit k78 _ 78 ?hg (N := 6) ?hd (xs := ([(⟨false, (⟨1, ([] : List (S30))⟩ : S30), (⟨0, ([] : List (S30))⟩ : S30)⟩ : S78), (⟨true, (⟨2, ([] : List (S30))⟩ : S30), (⟨0, ([] : List (S30))⟩ : S30)⟩ : S78)] : List (S78))) (inner := [.bool false, .int .i64 1, .slice none 0 0, .int .i64 0, .slice none 0 0, .bool true, .int .i64 2, .slice none 0 0, .int .i64 0, .slice none 0 0]) (ok := fun _ => True) (okp := fun _ => True) ?hr ?hp (fun _ hk => hk) trivial (Below.refl _ _) (Nat.le_refl _) (by simp) ?_; (case hd => rfl); (case hg => rfl); (case hr => exact rq_); (case hp => exact (Reps.c5 (show Kd.M k78 _ _ _ (⟨false, (⟨1, ([] : List (S30))⟩ : S30), (⟨0, ([] : List (S30))⟩ : S30)⟩ : S78) [.bool false, .int .i64 1, .slice none 0 0, .int .i64 0, .slice none 0 0] from (k78_mkM _ _ _ (⟨false, (⟨1, ([] : List (S30))⟩ : S30), (⟨0, ([] : List (S30))⟩ : S30)⟩ : S78) (Kd.R_nil _ _ _ _ _) (Kd.R_nil _ _ _ _ _))) (Reps.c5 (show Kd.M k78 _ _ _ (⟨true, (⟨2, ([] : List (S30))⟩ : S30), (⟨0, ([] : List (S30))⟩ : S30)⟩ : S78) [.bool true, .int .i64 2, .slice none 0 0, .int .i64 0, .slice none 0 0] from (k78_mkM _ _ _ (⟨true, (⟨2, ([] : List (S30))⟩ : S30), (⟨0, ([] : List (S30))⟩ : S30)⟩ : S78) (Kd.R_nil _ _ _ _ _) (Kd.R_nil _ _ _ _ _))) (Reps.none _ _)))); intro v379 w6 ho7 hb hg_ hnew_; clear hg_ hnew_; (first | rw [← Ny378.out] at ho7 | (simp only [Int.reduceToNat] at ho7; rw [← Ny378.out] at ho7)); have HO380 := Az_.mk (Kd.R_lower ho7 (bZ_ (bq_ HB))); replace HB := Az_.mk (bT_ (bq_ HB) hb); clear hb ho7; obtain ⟨Ao8, co8, eo8⟩ := Kd.R_slice HO380.out; subst eo8) | ((with_reducible refine yaf_ (f := 58) rfl ?_); refine goesL_ (some 7) rfl rfl Try.func58 (by kernel_rfl) rfl #[.slice Ao8 y378.length co8] rfl mq_ ?_; (with_reducible refine (order_Looked.calls k _ _ y378 t381 _ ?side1 ?side2 A1.out).mono ?_); (case side1 => repeat (first | exact (Kd.R_reads' HO380.out).2.2 | (with_reducible refine Kd.C_alloc ?_ _) | (with_reducible refine Kd.C_drewN ?_ _) | (with_reducible refine Kd.C_drew ?_))); (case side2 => exact (Kd.R_reads' HO380.out).2.1); rintro e w9 ⟨v382, rfl, ho0, hb⟩; refine ⟨_, rfl, ?_⟩; replace HO380 := Az_.mk (Kd.R_below (rr_ HO380) hb); have HO383 := Az_.mk (Kd.R_lower ho0 (bZ_ (bq_ HB))); replace HB := Az_.mk (bT_ (bq_ HB) hb); (try clear hb); (try clear hb2); (try clear hk); (try clear hi); (try clear ho0); obtain ⟨Ao10, co10, eo10⟩ := Kd.R_slice HO383.out; subst eo10; have p384 : 0 ≤ (0 : Int) := (by omega); have q384 : 0 < (t381.length : Int) := of_decide_eq_true (by first | (with_reducible assumption) | assumption); obtain ⟨ad384, e384, hx384_0⟩ := Kd.at_int (Kd.R_reads' HO383.out).2.2 0 p384 q384; cases e384; have qi384 : (0 < t381.length) = True := eq_true (by omega); (try rw [show ((0 : Int)).toNat = 0 from rfl] at hx384_0); (try rw [Addr.add_zero'] at hx384_0); replace p384 := eq_true p384; replace q384 := eq_true q384) | (go_at_call 58; (refine (order_Looked.calls k _ _ ([] : List (S78)) t385 _ ?side1 ?side2 A5.out).mono ?_); (case side1 => exact Kd.C_nil _ _); (case side2 => exact Nat.le_refl _); rintro e w11 ⟨v386, rfl, ho0, hb⟩; replace HO380 := Az_.mk (Kd.R_below (rr_ HO380) hb); have HO387 := Az_.mk (Kd.R_lower (Kd.R_new' ho0 (Kd.R_lt (rr_ HO383))) (bZ_ (bq_ HB))); replace HO383 := Az_.mk (Kd.R_elder' (rr_ HO383) (Kd.R_base ho0) hb); replace HB := Az_.mk (bT_ (bq_ HB) hb); (try clear hb); (try clear hb2); (try clear hk); (try clear hi); (try clear ho0); obtain ⟨Ao12, co12, eo12⟩ := Kd.R_slice HO387.out; subst eo12))
    go_ret
    exact ⟨by first | rfl | (simp [yae_, yad_] <;> rfl) | (simp [*, yae_, yad_] <;> rfl), bq_ HB⟩
   ·rw [if_neg c4] at H
    have c4b0 : ((rd t381 0) == 1) = false := beq_eq_false_iff_ne.mpr c4
    have c4b1 : ((rd t381 0) != 1) = true := bne_iff_ne.mpr c4
    obtain rfl := Option.some.inj H
    go_enter Try.func54, Try.ntmps54
    go_wp2_with (first | ((with_reducible refine gate_dst (N := 6) rfl ?_); (try (refine gate_guard (by rfl) ?_; dsimp only)); refine Kd.R_lit k78 _ 78 ?hg (N := 6) ?hd (xs := ([(⟨false, (⟨1, ([] : List (S30))⟩ : S30), (⟨0, ([] : List (S30))⟩ : S30)⟩ : S78), (⟨true, (⟨2, ([] : List (S30))⟩ : S30), (⟨0, ([] : List (S30))⟩ : S30)⟩ : S78)] : List (S78))) (inner := [.bool false, .int .i64 1, .slice none 0 0, .int .i64 0, .slice none 0 0, .bool true, .int .i64 2, .slice none 0 0, .int .i64 0, .slice none 0 0]) (ok := fun _ => True) (okp := fun _ => True) ?hr ?hp (fun _ hk => hk) trivial (Below.refl _ _) (Nat.le_refl _) (by simp) ?_; (case hd => rfl); (case hg => rfl); (case hr => exact rq_); (case hp => exact (Reps.c5 (show Kd.M k78 _ _ _ (⟨false, (⟨1, ([] : List (S30))⟩ : S30), (⟨0, ([] : List (S30))⟩ : S30)⟩ : S78) [.bool false, .int .i64 1, .slice none 0 0, .int .i64 0, .slice none 0 0] from (k78_mkM _ _ _ (⟨false, (⟨1, ([] : List (S30))⟩ : S30), (⟨0, ([] : List (S30))⟩ : S30)⟩ : S78) (Kd.R_nil _ _ _ _ _) (Kd.R_nil _ _ _ _ _))) (Reps.c5 (show Kd.M k78 _ _ _ (⟨true, (⟨2, ([] : List (S30))⟩ : S30), (⟨0, ([] : List (S30))⟩ : S30)⟩ : S78) [.bool true, .int .i64 2, .slice none 0 0, .int .i64 0, .slice none 0 0] from (k78_mkM _ _ _ (⟨true, (⟨2, ([] : List (S30))⟩ : S30), (⟨0, ([] : List (S30))⟩ : S30)⟩ : S78) (Kd.R_nil _ _ _ _ _) (Kd.R_nil _ _ _ _ _))) (Reps.none _ _)))); intro v379 w13 ho14 hb hg_ hnew_; clear hg_ hnew_; (first | rw [← Ny378.out] at ho14 | (simp only [Int.reduceToNat] at ho14; rw [← Ny378.out] at ho14)); have HO380 := Az_.mk (Kd.R_lower ho14 (bZ_ (bq_ HB))); replace HB := Az_.mk (bT_ (bq_ HB) hb); clear hb ho14; obtain ⟨Ao15, co15, eo15⟩ := Kd.R_slice HO380.out; subst eo15) | ((with_reducible refine yaf_ (f := 58) rfl ?_); refine goesL_ (some 7) rfl rfl Try.func58 (by kernel_rfl) rfl #[.slice Ao15 y378.length co15] rfl mq_ ?_; (with_reducible refine (order_Looked.calls k _ _ y378 t381 _ ?side1 ?side2 A1.out).mono ?_); (case side1 => repeat (first | exact (Kd.R_reads' HO380.out).2.2 | (with_reducible refine Kd.C_alloc ?_ _) | (with_reducible refine Kd.C_drewN ?_ _) | (with_reducible refine Kd.C_drew ?_))); (case side2 => exact (Kd.R_reads' HO380.out).2.1); rintro e w16 ⟨v382, rfl, ho0, hb⟩; refine ⟨_, rfl, ?_⟩; replace HO380 := Az_.mk (Kd.R_below (rr_ HO380) hb); have HO383 := Az_.mk (Kd.R_lower ho0 (bZ_ (bq_ HB))); replace HB := Az_.mk (bT_ (bq_ HB) hb); (try clear hb); (try clear hb2); (try clear hk); (try clear hi); (try clear ho0); obtain ⟨Ao17, co17, eo17⟩ := Kd.R_slice HO383.out; subst eo17; have p384 : 0 ≤ (0 : Int) := (by omega); have q384 : 0 < (t381.length : Int) := of_decide_eq_true (by first | (with_reducible assumption) | assumption); obtain ⟨ad384, e384, hx384_0⟩ := Kd.at_int (Kd.R_reads' HO383.out).2.2 0 p384 q384; cases e384; have qi384 : (0 < t381.length) = True := eq_true (by omega); (try rw [show ((0 : Int)).toNat = 0 from rfl] at hx384_0); (try rw [Addr.add_zero'] at hx384_0); replace p384 := eq_true p384; replace q384 := eq_true q384))
    go_ret
    exact ⟨by first | rfl | (simp [yae_, yad_] <;> rfl) | (simp [*, yae_, yad_] <;> rfl), bq_ HB⟩
  ·rw [if_neg c3] at H
   exact absurd H (by simp)
 ·rw [if_neg c2] at H
  have c2b0 : ((t381.length : Int) == 1) = false := beq_eq_false_iff_ne.mpr c2
  have c2b1 : ((t381.length : Int) != 1) = true := bne_iff_ne.mpr c2
  obtain rfl := Option.some.inj H
  go_enter Try.func54, Try.ntmps54
  go_wp2_with (first | ((with_reducible refine gate_dst (N := 6) rfl ?_); (try (refine gate_guard (by rfl) ?_; dsimp only)); refine Kd.R_lit k78 _ 78 ?hg (N := 6) ?hd (xs := ([(⟨false, (⟨1, ([] : List (S30))⟩ : S30), (⟨0, ([] : List (S30))⟩ : S30)⟩ : S78), (⟨true, (⟨2, ([] : List (S30))⟩ : S30), (⟨0, ([] : List (S30))⟩ : S30)⟩ : S78)] : List (S78))) (inner := [.bool false, .int .i64 1, .slice none 0 0, .int .i64 0, .slice none 0 0, .bool true, .int .i64 2, .slice none 0 0, .int .i64 0, .slice none 0 0]) (ok := fun _ => True) (okp := fun _ => True) ?hr ?hp (fun _ hk => hk) trivial (Below.refl _ _) (Nat.le_refl _) (by simp) ?_; (case hd => rfl); (case hg => rfl); (case hr => exact rq_); (case hp => exact (Reps.c5 (show Kd.M k78 _ _ _ (⟨false, (⟨1, ([] : List (S30))⟩ : S30), (⟨0, ([] : List (S30))⟩ : S30)⟩ : S78) [.bool false, .int .i64 1, .slice none 0 0, .int .i64 0, .slice none 0 0] from (k78_mkM _ _ _ (⟨false, (⟨1, ([] : List (S30))⟩ : S30), (⟨0, ([] : List (S30))⟩ : S30)⟩ : S78) (Kd.R_nil _ _ _ _ _) (Kd.R_nil _ _ _ _ _))) (Reps.c5 (show Kd.M k78 _ _ _ (⟨true, (⟨2, ([] : List (S30))⟩ : S30), (⟨0, ([] : List (S30))⟩ : S30)⟩ : S78) [.bool true, .int .i64 2, .slice none 0 0, .int .i64 0, .slice none 0 0] from (k78_mkM _ _ _ (⟨true, (⟨2, ([] : List (S30))⟩ : S30), (⟨0, ([] : List (S30))⟩ : S30)⟩ : S78) (Kd.R_nil _ _ _ _ _) (Kd.R_nil _ _ _ _ _))) (Reps.none _ _)))); intro v379 w18 ho19 hb hg_ hnew_; clear hg_ hnew_; (first | rw [← Ny378.out] at ho19 | (simp only [Int.reduceToNat] at ho19; rw [← Ny378.out] at ho19)); have HO380 := Az_.mk (Kd.R_lower ho19 (bZ_ (bq_ HB))); replace HB := Az_.mk (bT_ (bq_ HB) hb); clear hb ho19; obtain ⟨Ao20, co20, eo20⟩ := Kd.R_slice HO380.out; subst eo20) | ((with_reducible refine yaf_ (f := 58) rfl ?_); refine goesL_ (some 7) rfl rfl Try.func58 (by kernel_rfl) rfl #[.slice Ao20 y378.length co20] rfl mq_ ?_; (with_reducible refine (order_Looked.calls k _ _ y378 t381 _ ?side1 ?side2 A1.out).mono ?_); (case side1 => repeat (first | exact (Kd.R_reads' HO380.out).2.2 | (with_reducible refine Kd.C_alloc ?_ _) | (with_reducible refine Kd.C_drewN ?_ _) | (with_reducible refine Kd.C_drew ?_))); (case side2 => exact (Kd.R_reads' HO380.out).2.1); rintro e w21 ⟨v382, rfl, ho0, hb⟩; refine ⟨_, rfl, ?_⟩; replace HO380 := Az_.mk (Kd.R_below (rr_ HO380) hb); have HO383 := Az_.mk (Kd.R_lower ho0 (bZ_ (bq_ HB))); replace HB := Az_.mk (bT_ (bq_ HB) hb); (try clear hb); (try clear hb2); (try clear hk); (try clear hi); (try clear ho0); obtain ⟨Ao22, co22, eo22⟩ := Kd.R_slice HO383.out; subst eo22))
  go_ret
  exact ⟨by first | rfl | (simp [yae_, yad_] <;> rfl) | (simp [*, yae_, yad_] <;> rfl), bq_ HB⟩
end
section
attribute [local go_sem] max2_int min2_int max_two min_two max_three min_three max_four min_four
def soritesref14_Greatest.l0 : Nat → List (S81) → Int → Int → Option (Bool)
 | 0, _, _, _ => none
 | k + 1, x0, x1, x5 => if x5 < (x0.length : Int) then (if 0 ≤ x5 then (if 0 ≤ x1 then (if x1 < (x0.length : Int) then ((soritesref14_Greater.f k ((rd_T81 x0 x5).f0) ((rd_T81 x0 x5).f1.f0) ((rd_T81 x0 x5).f1.f1) ((rd_T81 x0 x5).f2.f0) ((rd_T81 x0 x5).f2.f1) ((rd_T81 x0 x1).f0) ((rd_T81 x0 x1).f1.f0) ((rd_T81 x0 x1).f1.f1) ((rd_T81 x0 x1).f2.f0) ((rd_T81 x0 x1).f2.f1)).bind fun t445 => (if t445 = true then (some false) else (soritesref14_Greatest.l0 k x0 x1 (wrap64 (x5 + 1))))) else (none)) else (none)) else (none)) else (some true)
def soritesref14_Greatest.f (k : Nat) (l0 : List (S81)) (a1 : Int) : Option (Bool) := soritesref14_Greatest.l0 k l0 a1 0
end
section
attribute [local go_sem] max2_int min2_int max_two min_two max_three min_three max_four min_four
def soritesref14_weight.f (k : Nat) (a0_0 : Bool) (a0_1 : Int) (l0_2 : List (S24)) (a0_3 : Int) (l0_4 : List (S24)) : Option (Int) := (soritesref06_Flat.f k a0_1 l0_2).bind fun t449 => ((soritesref06_Flat.f k a0_3 l0_4).bind fun t452 => (some (wrap64 ((t449.length : Int) + (t452.length : Int)))))
end
section
attribute [local go_sem] max2_int min2_int max_two min_two max_three min_three max_four min_four
mutual
def soritesref14_Looked.l0 : Nat → List (S81) → Int → Int → Option (List Int)
 | 0, _, _, _ => none
 | k + 1, x0, x3, x4 => if x4 < (x0.length : Int) then (if 0 ≤ x4 then (if (rd_T81 x0 x4).f0 = true then ((soritesref14_weight.f k ((rd_T81 x0 x4).f0) ((rd_T81 x0 x4).f1.f0) ((rd_T81 x0 x4).f1.f1) ((rd_T81 x0 x4).f2.f0) ((rd_T81 x0 x4).f2.f1)).bind fun t457 => (if t457 > x3 then ((soritesref14_weight.f k ((rd_T81 x0 x4).f0) ((rd_T81 x0 x4).f1.f0) ((rd_T81 x0 x4).f1.f1) ((rd_T81 x0 x4).f2.f0) ((rd_T81 x0 x4).f2.f1)).bind fun t459 => (soritesref14_Looked.l0 k x0 t459 (wrap64 (x4 + 1)))) else (soritesref14_Looked.l0 k x0 x3 (wrap64 (x4 + 1))))) else (soritesref14_Looked.l0 k x0 x3 (wrap64 (x4 + 1)))) else (none)) else (soritesref14_Looked.l1 k x0 x3 ([] : List Int) 0)
def soritesref14_Looked.l1 : Nat → List (S81) → Int → List Int → Int → Option (List Int)
 | 0, _, _, _, _ => none
 | k + 1, x0, x3, x5, x6 => if x6 < (x0.length : Int) then (if x3 > 0 then (if 0 ≤ x6 then (if (rd_T81 x0 x6).f0 = true then ((soritesref14_weight.f k ((rd_T81 x0 x6).f0) ((rd_T81 x0 x6).f1.f0) ((rd_T81 x0 x6).f1.f1) ((rd_T81 x0 x6).f2.f0) ((rd_T81 x0 x6).f2.f1)).bind fun t462 => (soritesref14_Looked.j2 k x0 x3 x5 x6 (t462 == x3))) else (soritesref14_Looked.j2 k x0 x3 x5 x6 false)) else (none)) else (soritesref14_Looked.j2 k x0 x3 x5 x6 false)) else (some x5)
def soritesref14_Looked.j2 : Nat → List (S81) → Int → List Int → Int → Bool → Option (List Int)
 | 0, _, _, _, _, _ => none
 | k + 1, x0, x3, x5, x6, x55 => if x55 = true then (some (([x6] : List Int))) else (if x3 = 0 then ((soritesref14_Greatest.f k x0 x6).bind fun t466 => (if t466 = true then (if x5.length < 17592186044416 then (soritesref14_Looked.l1 k x0 x3 (x5 ++ [x6]) (wrap64 (x6 + 1))) else (none)) else (soritesref14_Looked.l1 k x0 x3 x5 (wrap64 (x6 + 1))))) else (soritesref14_Looked.l1 k x0 x3 x5 (wrap64 (x6 + 1))))
end
def soritesref14_Looked.f (k : Nat) (l0 : List (S81)) : Option (List Int) := soritesref14_Looked.l0 k l0 0 0
end
section
theorem rd81_at (l : List S81) (k : Nat) (h : k < l.length) : rd_T81 l (k : Int) = l[k] := by
 unfold rd_T81
 simp [List.getD, List.getElem?_eq_getElem h]
theorem grL_irrefl (x : S78) : grL x x = false := multi_irrefl _
theorem grL_trans (x y z : S78) (h : grL x y = true) (k : grL y z = true) : grL x z = true := multi_trans _ _ _ h k
def gstL (l : List S78) (y : S78) : Bool := !(l.any fun x => grL x y)
theorem gr78_of {x y : S78} (hx : fitL x) (hy : fitL y) : gr78 x y = some (grL x y) := OGreater_of hx hy
theorem OGreatest_of {l : List S78} (hl : ∀ x ∈ l, fitL x) (i : Nat) (hi : i < l.length) : order_Greatest.f l (i : Int) = some (gstL l l[i]) := by
 have hfi := hl _ (List.getElem_mem hi)
 unfold order_Greatest.f
 rw [if_neg (by omega), rd78_at l i hi, if_pos (List.all_eq_true.2 (fun x hx => by rw [gr78_of (hl x hx) hfi]; rfl))]
 congr 2
 rw [Bool.eq_iff_iff, List.any_eq_true, List.any_eq_true]
 constructor
 ·rintro ⟨x, hx, h⟩
  rw [gr78_of (hl x hx) hfi] at h
  exact ⟨x, hx, by simpa using h⟩
 ·rintro ⟨x, hx, h⟩
  exact ⟨x, hx, by rw [gr78_of (hl x hx) hfi, h]; rfl⟩
theorem RGreatest_spec {l : List S78} (hl : ∀ x ∈ l, fitL x) (hn : l.length ≤ 1000000) (i : Nat) (hi : i < l.length) : Ev (fun k => soritesref14_Greatest.f k l (i : Int)) (gstL l l[i]) := by
 have key : ∀ (n j : Nat), l.length - j = n → j ≤ l.length → Ev (fun k => soritesref14_Greatest.l0 k l (i : Int) (j : Int)) (!((l.drop j).any fun x => grL x l[i])) := by
  intro n
  induction n with
  | zero =>
   intro j hj hle
   refine Ev.step (f := fun _ => some true) (fun k => by rw [soritesref14_Greatest.l0, if_neg (by omega)]) ?_
   rw [List.drop_of_length_le (by omega)]
   exact Ev.now _
  | succ n ihn =>
   intro j hj hle
   have hlt : j < l.length := by omega
   rw [List.drop_eq_getElem_cons hlt, List.any_cons]
   refine Ev.step (f := fun k => (soritesref14_Greater.f k l[j].f0 l[j].f1.f0 l[j].f1.f1 l[j].f2.f0 l[j].f2.f1 l[i].f0 l[i].f1.f0 l[i].f1.f1 l[i].f2.f0 l[i].f2.f1).bind fun t => if t = true then some false else soritesref14_Greatest.l0 k l (i : Int) ((j + 1 : Nat) : Int)) (fun k => ?_) (Ev.bind (RGreaterL_spec (hl _ (List.getElem_mem hlt)) (hl _ (List.getElem_mem hi))) ?_)
   ·rw [soritesref14_Greatest.l0, if_pos (by omega), if_pos (by omega), if_pos (by omega), if_pos (by omega), rd81_at l j hlt, rd81_at l i hi, wsucc j l.length hlt (by omega)]
   ·cases hg : grL l[j] l[i] with
    | true => simp only [if_true, Bool.true_or]; exact Ev.now _
    | false => simp only [Bool.false_eq_true, if_false, Bool.false_or]; exact ihn (j + 1) (by omega) (by omega)
 exact key l.length 0 rfl (by omega)
def wtL (x : S78) : Nat := (nodes x.f1).length + (nodes x.f2).length
theorem OWeight_of {x : S78} (h : fitL x) : order_weight.f x.f0 x.f1.f0 x.f1.f1 x.f2.f0 x.f2.f1 = some (wtL x : Int) := by
 unfold order_weight.f
 rw [Size_fit h.1, Option.bind_some, Size_fit h.2, Option.bind_some]
 have := h.1.1
 have := h.2.1
 rw [w64 _ (by omega)]
 unfold wtL
 rw [Int.natCast_add]
theorem RWeight_spec {x : S78} (h : fitL x) : Ev (fun k => soritesref14_weight.f k x.f0 x.f1.f0 x.f1.f1 x.f2.f0 x.f2.f1) (wtL x : Int) := by
 unfold soritesref14_weight.f
 refine Ev.bind (RFlat_spec x.f1 h.1) (Ev.bind (RFlat_spec x.f2 h.2) ?_)
 have := h.1.1
 have := h.2.1
 rw [w64 _ (by omega)]
 unfold wtL
 rw [Int.natCast_add]
 exact Ev.now _
theorem wt_pos' (x : S78) : 0 < wtL x := by unfold wtL; have := nodes_pos x.f1; omega
def col (l : List S78) : Nat → Nat → List Int
 | 0, _ => []
 | n + 1, i => if gstL l (l.getD i z78) = true then (i : Int) :: col l n (i + 1) else col l n (i + 1)
theorem getD_at (l : List S78) (i : Nat) (h : i < l.length) : l.getD i z78 = l[i] := by simp [List.getD, List.getElem?_eq_getElem h]
theorem Ocol {l : List S78} (hl : ∀ x ∈ l, fitL x) (hn : l.length ≤ 1000000) : ∀ (n i : Nat), l.length - i = n → i ≤ l.length → ∀ o : List Int, o.length ≤ i → Ev (fun k => order_Looked.l1 k l o (l.length : Int) (i : Int)) (o ++ col l n i) := by
 intro n
 induction n with
 | zero =>
  intro i hi hle o ho
  refine Ev.step (f := fun _ => some o) (fun k => by rw [order_Looked.l1, if_neg (by omega)]) ?_
  rw [col, List.append_nil]
  exact Ev.now _
 | succ n ihn =>
  intro i hi hle o ho
  have hlt : i < l.length := by omega
  rw [col, getD_at l i hlt]
  cases hg : gstL l l[i] with
  | true =>
   refine Ev.step (f := fun k => order_Looked.l1 k l (o ++ [(i : Int)]) (l.length : Int) ((i + 1 : Nat) : Int)) (fun k => ?_) ?_
   ·rw [order_Looked.l1, if_pos (by omega), OGreatest_of hl i hlt, Option.bind_some, if_pos hg, if_pos (by omega), wsucc i l.length hlt (by omega)]
   ·have := ihn (i + 1) (by omega) (by omega) (o ++ [(i : Int)]) (by rw [List.length_append, List.length_singleton]; omega)
    rw [List.append_assoc] at this
    exact this
  | false =>
   refine Ev.step (f := fun k => order_Looked.l1 k l o (l.length : Int) ((i + 1 : Nat) : Int)) (fun k => ?_) (ihn (i + 1) (by omega) (by omega) o (by omega))
   rw [order_Looked.l1, if_pos (by omega), OGreatest_of hl i hlt, Option.bind_some, if_neg (by rw [hg]; decide), wsucc i l.length hlt (by omega)]
theorem Rcol {l : List S78} (hl : ∀ x ∈ l, fitL x) (hn : l.length ≤ 1000000) : ∀ (n i : Nat), l.length - i = n → i ≤ l.length → ∀ o : List Int, o.length ≤ i → Ev (fun k => soritesref14_Looked.l1 k l 0 o (i : Int)) (o ++ col l n i) := by
 intro n
 induction n with
 | zero =>
  intro i hi hle o ho
  refine Ev.step (f := fun _ => some o) (fun k => by rw [soritesref14_Looked.l1, if_neg (by omega)]) ?_
  rw [col, List.append_nil]
  exact Ev.now _
 | succ n ihn =>
  intro i hi hle o ho
  have hlt : i < l.length := by omega
  rw [col, getD_at l i hlt]
  refine Ev.step (f := fun k => soritesref14_Looked.j2 k l 0 o (i : Int) false) (fun k => by rw [soritesref14_Looked.l1, if_pos (by omega), if_neg (by decide)]) ?_
  refine Ev.step (f := fun k => (soritesref14_Greatest.f k l (i : Int)).bind fun t => if t = true then (if o.length < 17592186044416 then soritesref14_Looked.l1 k l 0 (o ++ [(i : Int)]) ((i + 1 : Nat) : Int) else none) else soritesref14_Looked.l1 k l 0 o ((i + 1 : Nat) : Int)) (fun k => ?_) (Ev.bind (RGreatest_spec hl hn i hlt) ?_)
  ·rw [soritesref14_Looked.j2, if_neg (by decide), if_pos rfl, wsucc i l.length hlt (by omega)]
  ·cases hg : gstL l l[i] with
   | true =>
    simp only [if_true, if_pos (show o.length < 17592186044416 by omega)]
    have := ihn (i + 1) (by omega) (by omega) (o ++ [(i : Int)]) (by rw [List.length_append, List.length_singleton]; omega)
    rw [List.append_assoc] at this
    exact this
   | false =>
    simp only [Bool.false_eq_true, if_false]
    exact ihn (i + 1) (by omega) (by omega) o (by omega)
theorem col_pos (l : List S78) : ∀ (n i j : Nat), i ≤ j → j < i + n → gstL l (l.getD j z78) = true → col l n i ≠ []
 | 0, i, j, h1, h2, _ => by omega
 | n + 1, i, j, h1, h2, h3 => by
  rw [col]
  split
  ·exact List.cons_ne_nil _ _
  ·rename_i h
   have : i ≠ j := fun e => h (by rw [e]; exact h3)
   exact col_pos l n (i + 1) j (by omega) (by omega) h3
end
section
def IsBest (l : List S78) (i b : Nat) : Prop := b < i ∧ (l.getD b z78).f0 = true ∧ (∀ j, j < i → (l.getD j z78).f0 = true → wtL (l.getD j z78) ≤ wtL (l.getD b z78)) ∧ ∀ j, j < b → (l.getD j z78).f0 = true → wtL (l.getD j z78) < wtL (l.getD b z78)
def NoNeg (l : List S78) (i : Nat) : Prop := ∀ j, j < i → (l.getD j z78).f0 = false
def InvB (l : List S78) (i : Nat) (x : Int) : Prop := (x = -1 ∧ NoNeg l i) ∨ ∃ b : Nat, x = (b : Int) ∧ IsBest l i b
def InvM (l : List S78) (i : Nat) (m : Int) : Prop := (m = 0 ∧ NoNeg l i) ∨ ∃ b : Nat, m = (wtL (l.getD b z78) : Int) ∧ IsBest l i b
theorem lt_succ_cases {P : Nat → Prop} {i : Nat} (h : ∀ j, j < i → P j) (hi : P i) : ∀ j, j < i + 1 → P j := fun j hj => by
 rcases Nat.lt_or_ge j i with h1 | h1
 ·exact h j h1
 ·rw [show j = i by omega]; exact hi
theorem IsBest.keep {l : List S78} {i b : Nat} (h : IsBest l i b) (hn : (l.getD i z78).f0 = true → wtL (l.getD i z78) ≤ wtL (l.getD b z78)) : IsBest l (i + 1) b :=
 ⟨by have := h.1; omega, h.2.1, lt_succ_cases h.2.2.1 hn, h.2.2.2⟩
theorem IsBest.new {l : List S78} {i b : Nat} (h : IsBest l i b) (hi : (l.getD i z78).f0 = true) (hn : wtL (l.getD b z78) < wtL (l.getD i z78)) : IsBest l (i + 1) i :=
 ⟨Nat.lt_succ_self _, hi, lt_succ_cases (fun j hj hjn => by have := h.2.2.1 j hj hjn; omega) (fun _ => Nat.le_refl _), fun j hj hjn => by have := h.2.2.1 j hj hjn; omega⟩
theorem IsBest.first {l : List S78} {i : Nat} (h : NoNeg l i) (hi : (l.getD i z78).f0 = true) : IsBest l (i + 1) i :=
 ⟨Nat.lt_succ_self _, hi, lt_succ_cases (fun j hj hjn => by rw [h j hj] at hjn; cases hjn) (fun _ => Nat.le_refl _), fun j hj hjn => by rw [h j hj] at hjn; cases hjn⟩
theorem IsBest.uniq {l : List S78} {i b c : Nat} (h : IsBest l i b) (k : IsBest l i c) : b = c := by
 rcases Nat.lt_trichotomy b c with hlt | he | hlt
 ·have h1 := k.2.2.2 b hlt h.2.1
  have h2 := h.2.2.1 c k.1 k.2.1
  omega
 ·exact he
 ·have h1 := h.2.2.2 c hlt k.2.1
  have h2 := k.2.2.1 b h.1 h.2.1
  omega
theorem Obest {l : List S78} (hl : ∀ x ∈ l, fitL x) (hn : l.length ≤ 1000000) : ∀ (n i : Nat), l.length - i = n → i ≤ l.length → ∀ x : Int, InvB l i x → ∃ x', InvB l l.length x' ∧ ∀ r, Ev (fun k => order_Looked.l0 k l x' l (l.length : Int) (l.length : Int)) r → Ev (fun k => order_Looked.l0 k l x l (l.length : Int) (i : Int)) r := by
 intro n
 induction n with
 | zero =>
  intro i hi hle x hx
  have : i = l.length := by omega
  subst this
  exact ⟨x, hx, fun r h => h⟩
 | succ n ihn =>
  intro i hi hle x hx
  have hlt : i < l.length := by omega
  have hfi := hl _ (List.getElem_mem hlt)
  have hgi := getD_at l i hlt
  have go : ∀ x2, InvB l (i + 1) x2 → (∀ r, Ev (fun k => order_Looked.l0 k l x2 l (l.length : Int) ((i + 1 : Nat) : Int)) r → Ev (fun k => order_Looked.l0 k l x l (l.length : Int) (i : Int)) r) → ∃ x', InvB l l.length x' ∧ ∀ r, Ev (fun k => order_Looked.l0 k l x' l (l.length : Int) (l.length : Int)) r → Ev (fun k => order_Looked.l0 k l x l (l.length : Int) (i : Int)) r := fun x2 h2 hs => by
   obtain ⟨x', h1, h3⟩ := ihn (i + 1) (by omega) (by omega) x2 h2
   exact ⟨x', h1, fun r h => hs r (h3 r h)⟩
  by_cases hneg : l[i].f0 = true
  ·rcases hx with ⟨rfl, hno⟩ | ⟨b, rfl, hb⟩
   ·refine go (i : Int) (.inr ⟨i, rfl, IsBest.first hno (by rw [hgi]; exact hneg)⟩) (fun r h => Ev.step (fun k => ?_) h)
    rw [order_Looked.l0, if_pos (by omega), if_pos (by omega), if_pos (by omega), rd78_at l i hlt, if_pos hneg, if_pos (by decide), wsucc i l.length hlt (by omega)]
   ·have hbl : b < l.length := by have := hb.1; omega
    have hfb := hl _ (List.getElem_mem hbl)
    have hgb := getD_at l b hbl
    by_cases hw : wtL l[b] < wtL l[i]
    ·refine go (i : Int) (.inr ⟨i, rfl, hb.new (by rw [hgi]; exact hneg) (by rw [hgi, hgb]; exact hw)⟩) (fun r h => Ev.step (fun k => ?_) h)
     rw [order_Looked.l0, if_pos (by omega), if_pos (by omega), if_pos (by omega), rd78_at l i hlt, if_pos hneg, if_neg (by omega), OWeight_of hfi, Option.bind_some, if_pos (by omega), if_pos (by omega), rd78_at l b hbl, OWeight_of hfb, Option.bind_some, if_pos (by omega), wsucc i l.length hlt (by omega)]
    ·refine go (b : Int) (.inr ⟨b, rfl, hb.keep (fun _ => by rw [hgi, hgb]; omega)⟩) (fun r h => Ev.step (fun k => ?_) h)
     rw [order_Looked.l0, if_pos (by omega), if_pos (by omega), if_pos (by omega), rd78_at l i hlt, if_pos hneg, if_neg (by omega), OWeight_of hfi, Option.bind_some, if_pos (by omega), if_pos (by omega), rd78_at l b hbl, OWeight_of hfb, Option.bind_some, if_neg (by omega), wsucc i l.length hlt (by omega)]
  ·have hnf : (l.getD i z78).f0 = false := by rw [hgi]; exact Bool.eq_false_iff.2 hneg
   refine go x ?_ (fun r h => Ev.step (fun k => ?_) h)
   ·rcases hx with ⟨rfl, hno⟩ | ⟨b, rfl, hb⟩
    ·exact .inl ⟨rfl, lt_succ_cases hno hnf⟩
    ·exact .inr ⟨b, rfl, hb.keep (fun h => by rw [hnf] at h; cases h)⟩
   ·rw [order_Looked.l0, if_pos (by omega), if_pos (by omega), if_pos (by omega), rd78_at l i hlt, if_neg hneg, wsucc i l.length hlt (by omega)]
theorem Rbest {l : List S78} (hl : ∀ x ∈ l, fitL x) (hn : l.length ≤ 1000000) : ∀ (n i : Nat), l.length - i = n → i ≤ l.length → ∀ x : Int, InvM l i x → ∃ x', InvM l l.length x' ∧ ∀ r, Ev (fun k => soritesref14_Looked.l0 k l x' (l.length : Int)) r → Ev (fun k => soritesref14_Looked.l0 k l x (i : Int)) r := by
 intro n
 induction n with
 | zero =>
  intro i hi hle x hx
  have : i = l.length := by omega
  subst this
  exact ⟨x, hx, fun r h => h⟩
 | succ n ihn =>
  intro i hi hle x hx
  have hlt : i < l.length := by omega
  have hfi := hl _ (List.getElem_mem hlt)
  have hgi := getD_at l i hlt
  have go : ∀ x2, InvM l (i + 1) x2 → (∀ r, Ev (fun k => soritesref14_Looked.l0 k l x2 ((i + 1 : Nat) : Int)) r → Ev (fun k => soritesref14_Looked.l0 k l x (i : Int)) r) → ∃ x', InvM l l.length x' ∧ ∀ r, Ev (fun k => soritesref14_Looked.l0 k l x' (l.length : Int)) r → Ev (fun k => soritesref14_Looked.l0 k l x (i : Int)) r := fun x2 h2 hs => by
   obtain ⟨x', h1, h3⟩ := ihn (i + 1) (by omega) (by omega) x2 h2
   exact ⟨x', h1, fun r h => hs r (h3 r h)⟩
  by_cases hneg : l[i].f0 = true
  ·have hst : ∀ k, soritesref14_Looked.l0 (k + 1) l x (i : Int) = (soritesref14_weight.f k l[i].f0 l[i].f1.f0 l[i].f1.f1 l[i].f2.f0 l[i].f2.f1).bind fun t => if t > x then ((soritesref14_weight.f k l[i].f0 l[i].f1.f0 l[i].f1.f1 l[i].f2.f0 l[i].f2.f1).bind fun t => soritesref14_Looked.l0 k l t ((i + 1 : Nat) : Int)) else soritesref14_Looked.l0 k l x ((i + 1 : Nat) : Int) := fun k => by
    rw [soritesref14_Looked.l0, if_pos (by omega), if_pos (by omega), rd81_at l i hlt, if_pos hneg, wsucc i l.length hlt (by omega)]
   by_cases hw : (wtL l[i] : Int) > x
   ·refine go (wtL l[i] : Int) (.inr ⟨i, by rw [hgi], ?_⟩) (fun r h => Ev.step hst (Ev.bind (RWeight_spec hfi) ?_))
    ·rcases hx with ⟨rfl, hno⟩ | ⟨b, rfl, hb⟩
     ·exact IsBest.first hno (by rw [hgi]; exact hneg)
     ·exact hb.new (by rw [hgi]; exact hneg) (by rw [hgi]; omega)
    ·simp only [if_pos hw]
     exact Ev.bind (RWeight_spec hfi) h
   ·refine go x ?_ (fun r h => Ev.step hst (Ev.bind (RWeight_spec hfi) ?_))
    ·rcases hx with ⟨rfl, hno⟩ | ⟨b, rfl, hb⟩
     ·have := wt_pos' l[i]
      omega
     ·exact .inr ⟨b, rfl, hb.keep (fun _ => by rw [hgi]; omega)⟩
    ·simp only [if_neg hw]
     exact h
  ·have hnf : (l.getD i z78).f0 = false := by rw [hgi]; exact Bool.eq_false_iff.2 hneg
   refine go x ?_ (fun r h => Ev.step (fun k => ?_) h)
   ·rcases hx with ⟨rfl, hno⟩ | ⟨b, rfl, hb⟩
    ·exact .inl ⟨rfl, lt_succ_cases hno hnf⟩
    ·exact .inr ⟨b, rfl, hb.keep (fun h => by rw [hnf] at h; cases h)⟩
   ·rw [soritesref14_Looked.l0, if_pos (by omega), if_pos (by omega), rd81_at l i hlt, if_neg hneg, wsucc i l.length hlt (by omega)]
theorem Rfind {l : List S78} (hl : ∀ x ∈ l, fitL x) (hn : l.length ≤ 1000000) {b : Nat} (hb : IsBest l l.length b) : ∀ (n i : Nat), b - i = n → i ≤ b → Ev (fun k => soritesref14_Looked.l1 k l (wtL (l.getD b z78) : Int) [] (i : Int)) [(b : Int)] := by
 have hpos := wt_pos' (l.getD b z78)
 have hbl := hb.1
 intro n
 induction n with
 | zero =>
  intro i hi hle
  have : i = b := by omega
  subst this
  have hfi := hl _ (List.getElem_mem hbl)
  have hgi := getD_at l i hbl
  have hneg : l[i].f0 = true := by rw [← hgi]; exact hb.2.1
  refine Ev.step (f := fun k => (soritesref14_weight.f k l[i].f0 l[i].f1.f0 l[i].f1.f1 l[i].f2.f0 l[i].f2.f1).bind fun t => soritesref14_Looked.j2 k l (wtL (l.getD i z78) : Int) [] (i : Int) (t == (wtL (l.getD i z78) : Int))) (fun k => ?_) (Ev.bind (RWeight_spec hfi) ?_)
  ·rw [soritesref14_Looked.l1, if_pos (by omega), if_pos (by omega), if_pos (by omega), rd81_at l i hbl, if_pos hneg]
  ·rw [hgi]
   exact Ev.step (f := fun _ => some [(i : Int)]) (fun k => by rw [soritesref14_Looked.j2, if_pos (beq_self_eq_true _)]) (Ev.now _)
 | succ n ihn =>
  intro i hi hle
  have hlt : i < b := by omega
  have hil : i < l.length := by omega
  have hfi := hl _ (List.getElem_mem hil)
  have hgi := getD_at l i hil
  have hskip : Ev (fun k => soritesref14_Looked.j2 k l (wtL (l.getD b z78) : Int) [] (i : Int) false) [(b : Int)] := by
   refine Ev.step (f := fun k => soritesref14_Looked.l1 k l (wtL (l.getD b z78) : Int) [] ((i + 1 : Nat) : Int)) (fun k => ?_) (ihn (i + 1) (by omega) (by omega))
   rw [soritesref14_Looked.j2, if_neg (by decide), if_neg (by omega), wsucc i l.length hil (by omega)]
  by_cases hneg : l[i].f0 = true
  ·refine Ev.step (f := fun k => (soritesref14_weight.f k l[i].f0 l[i].f1.f0 l[i].f1.f1 l[i].f2.f0 l[i].f2.f1).bind fun t => soritesref14_Looked.j2 k l (wtL (l.getD b z78) : Int) [] (i : Int) (t == (wtL (l.getD b z78) : Int))) (fun k => ?_) (Ev.bind (RWeight_spec hfi) ?_)
   ·rw [soritesref14_Looked.l1, if_pos (by omega), if_pos (by omega), if_pos (by omega), rd81_at l i hil, if_pos hneg]
   ·have hw := hb.2.2.2 i hlt (by rw [hgi]; exact hneg)
    rw [hgi] at hw
    have hne : ((wtL l[i] : Int) == (wtL (l.getD b z78) : Int)) = false := by rw [beq_eq_false_iff_ne]; omega
    simp only [hne]
    exact hskip
  ·refine Ev.step (f := fun k => soritesref14_Looked.j2 k l (wtL (l.getD b z78) : Int) [] (i : Int) false) (fun k => ?_) hskip
   rw [soritesref14_Looked.l1, if_pos (by omega), if_pos (by omega), if_pos (by omega), rd81_at l i hil, if_neg hneg]
theorem Looked_spec {l : List S78} (hl : ∀ x ∈ l, fitL x) (hn : l.length ≤ 1000000) : ∃ o : List Int, Ev (fun k => order_Looked.f k l) o ∧ Ev (fun k => soritesref14_Looked.f k l) o ∧ (0 < o.length ↔ 0 < l.length) ∧ ((∃ b : Nat, IsBest l l.length b ∧ o = [(b : Int)]) ∨ (NoNeg l l.length ∧ o = col l l.length 0)) ∧ o.length ≤ l.length := by
 obtain ⟨x, hx, hxs⟩ := Obest hl hn l.length 0 rfl (Nat.zero_le _) (-1) (.inl ⟨rfl, fun j hj => absurd hj (Nat.not_lt_zero _)⟩)
 obtain ⟨m, hm, hms⟩ := Rbest hl hn l.length 0 rfl (Nat.zero_le _) 0 (.inl ⟨rfl, fun j hj => absurd hj (Nat.not_lt_zero _)⟩)
 have hcl : ∀ n i, (col l n i).length ≤ n := by
  intro n
  induction n with
  | zero => intro i; exact Nat.le_refl _
  | succ n ih => intro i; have := ih (i + 1); rw [col]; split; (rw [List.length_cons]; omega); omega
 rcases hx with ⟨rfl, hno⟩ | ⟨b, rfl, hb⟩
 ·rcases hm with ⟨rfl, _⟩ | ⟨c, rfl, hc⟩
  ·refine ⟨col l l.length 0, hxs _ ?_, hms _ ?_, ⟨fun h => ?_, fun h => ?_⟩, .inr ⟨hno, rfl⟩, hcl _ _⟩
   ·refine Ev.step (f := fun k => order_Looked.l1 k l [] (l.length : Int) ((0 : Nat) : Int)) (fun k => by rw [order_Looked.l0, if_neg (by omega), if_neg (by decide)]; rfl) ?_
    exact Ocol hl hn l.length 0 rfl (Nat.zero_le _) [] (Nat.le_refl _)
   ·refine Ev.step (f := fun k => soritesref14_Looked.l1 k l 0 [] ((0 : Nat) : Int)) (fun k => by rw [soritesref14_Looked.l0, if_neg (by omega)]; rfl) ?_
    exact Rcol hl hn l.length 0 rfl (Nat.zero_le _) [] (Nat.le_refl _)
   ·rcases Nat.eq_zero_or_pos l.length with h0 | h0
    ·rw [h0] at h; exact absurd h (Nat.lt_irrefl _)
    ·exact h0
   ·obtain ⟨x, hx, _, hmax⟩ := ex_max grL grL_irrefl grL_trans (fun _ => True) l ⟨l[0], List.getElem_mem h, trivial⟩
    obtain ⟨j, hj, rfl⟩ := List.getElem_of_mem hx
    have hg : gstL l (l.getD j z78) = true := by
     rw [getD_at l j hj]
     unfold gstL
     rw [Bool.not_eq_true', List.any_eq_false]
     intro z hz
     rw [hmax z hz trivial]
     decide
    exact List.length_pos_iff.2 (col_pos l l.length 0 j (Nat.zero_le _) (by omega) hg)
  ·have := hno c hc.1
   rw [hc.2.1] at this
   cases this
 ·rcases hm with ⟨rfl, hno⟩ | ⟨c, rfl, hc⟩
  ·have := hno b hb.1
   rw [hb.2.1] at this
   cases this
  ·have hbc := hb.uniq hc
   subst hbc
   refine ⟨[(b : Int)], hxs _ ?_, hms _ ?_, ⟨fun _ => by have := hb.1; omega, fun _ => Nat.zero_lt_one⟩, .inl ⟨b, hb, rfl⟩, by have := hb.1; rw [List.length_singleton]; omega⟩
   ·exact Ev.step (f := fun _ => some [(b : Int)]) (fun k => by rw [order_Looked.l0, if_neg (by omega), if_pos (by omega)]) (Ev.now _)
   ·exact Ev.step (f := fun k => soritesref14_Looked.l1 k l (wtL (l.getD b z78) : Int) [] ((0 : Nat) : Int)) (fun k => by rw [soritesref14_Looked.l0, if_neg (by omega)]; rfl) (Rfind hl hn hb b 0 (by omega) (Nat.zero_le _))
theorem alive14 : Ev (fun k => soriteslaw14_alive.f k) true := by
 have f1 : fit ⟨1, []⟩ := fitB_iff _ |>.1 (by decide)
 have f2 : fit ⟨2, []⟩ := fitB_iff _ |>.1 (by decide)
 have f0 : fit ⟨0, []⟩ := fitB_iff _ |>.1 (by decide)
 obtain ⟨o, h1, _, _, h2, _⟩ := Looked_spec (l := [⟨false, ⟨1, []⟩, ⟨0, []⟩⟩, ⟨true, ⟨2, []⟩, ⟨0, []⟩⟩]) (by intro x hx; rcases List.mem_cons.1 hx with rfl | hx; exact ⟨f1, f0⟩; rw [List.mem_singleton] at hx; subst hx; exact ⟨f2, f0⟩) (by decide)
 obtain ⟨o2, g1, _, g2, _, _⟩ := Looked_spec (l := []) (by intro x hx; cases hx) (by decide)
 have ho : o = [1] := by
  rcases h2 with ⟨b, hb, rfl⟩ | ⟨hno, _⟩
  ·have hb1 : b < 2 := hb.1
   have hb2 := hb.2.1
   have : b = 1 := by
    rcases (show b = 0 ∨ b = 1 by omega) with rfl | rfl
    ·cases hb2
    ·rfl
   subst this
   rfl
  ·have := hno 1 (by decide)
   cases this
 have ho2 : o2 = [] := by
  cases o2 with
  | nil => rfl
  | cons y r => exact absurd (g2.1 (by simp)) (Nat.lt_irrefl _)
 subst ho ho2
 unfold soriteslaw14_alive.f
 refine Ev.bind h1 ?_
 exact Ev.congr (f := fun n => (order_Looked.f n []).bind fun t385 => some ((t385.length : Int) == 0)) (fun n => by rw [if_pos (by decide), if_pos (by decide), if_pos (by decide)]) (Ev.bind g1 (Ev.now _))
end
section
def Own30 (w0 W : World) (v : Value) (xs : List S30) : Prop := Kd.N k30 30 W w0.heap.size (fun k => w0.heap.size ≤ k) v xs ∧ Below w0.heap.size w0 W
theorem Own30.nil (w0 : World) : Own30 w0 w0 (.slice none 0 0) [] := ⟨Kd.N_nil _ _ _ _ _, Below.refl _ _⟩
theorem Own30.below {w0 W W' : World} {v : Value} {xs : List S30} (h : Own30 w0 W v xs) (hb : Below W.heap.size W W') : Own30 w0 W' v xs := ⟨Kd.N_below h.1 hb, h.2.trans (hb.mono h.2.size)⟩
theorem Own30.reads {w0 W : World} {v : Value} {xs : List S30} (h : Own30 w0 W v xs) : ∃ A c, v = .slice A xs.length c ∧ xs.length ≤ c ∧ k30.C W A xs.length xs := by
 obtain ⟨A, c, rfl, hc, hF⟩ := Kd.N_V (base' := 0) h.1
 exact ⟨A, c, rfl, hc, Kd.F_now hF⟩
theorem Own30.elem {w0 wr W : World} {v : Value} {xs : List S30} (h : Own30 w0 wr v xs) {A : Option Addr} {n c : Nat} {x : S30} (hR : Kd.R k30 30 W wr.heap.size (fun _ => True) (.slice A n c) x.f1) :
  x.f1.length ≤ c ∧ n = x.f1.length ∧ Kd.FK k30 W (fun k => w0.heap.size ≤ k ∧ some k ≠ v.ownBlock) x [.int .i64 x.f0, .slice A x.f1.length c] := by
 have hb := Kd.R_mono (ok' := fun k => w0.heap.size ≤ k ∧ some k ≠ v.ownBlock) (Kd.R_bound hR) (fun k hk => ⟨Nat.le_trans h.2.size hk.2.1, fun he => by have := Kd.N_lt h.1 k he.symm; have := hk.2.1; omega⟩)
 obtain ⟨h1, h2, _⟩ := Kd.R_reads' hR
 subst h1
 exact ⟨h2, rfl, k30_mkF _ _ x h2 (Kd.V_F (Kd.R_V (base' := 0) hb))⟩
theorem wrap_nat (k : Nat) (h : k < 1000000) : wrap64 ((k : Int) + 1) = ((k + 1 : Nat) : Int) := by unfold wrap64; omega
theorem term_at {W : World} {A : Option Addr} {l : List S24} (hC : k24.C W A l.length l) (k : Nat) (t : S24) (hk : l[k]? = some t) : ∃ ad B e, A = some ad ∧ W.cell? (ad.add (k * 2)) = some (.int .i64 t.f0) ∧ W.cell? ⟨(ad.add (k * 2)).block, (ad.add (k * 2)).off + 1, none⟩ = some (.slice B t.f1.length e) ∧ t.f1.length ≤ e ∧ k24.C W B t.f1.length t.f1 := by
 have hl := (List.getElem?_eq_some_iff.1 hk).1
 obtain ⟨ad, B, e, h0, h1, h2, h3, h4⟩ := at_T24 hC (k : Int) (by omega) (by omega)
 have hrd : rd_T24 l (k : Int) = t := by unfold rd_T24; rw [Int.toNat_natCast, List.getD_eq_getElem?_getD, hk]; rfl
 rw [hrd] at h1 h2 h3 h4
 rw [Int.toNat_natCast] at h1 h2
 exact ⟨ad, B, e, h0, h1, h2, h3, h4⟩
end
section
open Go.ChangeShapes Go.WideShapes Go.RowKit Go.Proofs.YtpfddihcikiofaaW.PrintWords Go.Proofs.YtpfddihcikiofaaW.PrintLast Go.Proofs.YtpfddihcikiofaaW.PrintMore
set_option maxRecDepth 100000
inductive Wd : S30 → Prop
 | mk (f : Int) (l : List S30) (h : l.length ≤ 4398046511104) (hs : ∀ x ∈ l, Wd x) : Wd ⟨f, l⟩
theorem Wd.len {t : S30} (h : Wd t) : t.f1.length ≤ 4398046511104 := by cases h with | mk f l h hs => exact h
theorem Wd.kid {t : S30} (h : Wd t) : ∀ x ∈ t.f1, Wd x := by cases h with | mk f l h hs => exact hs
theorem Of_wide : ∀ t : S30, Wd t → Ev (fun k => soriteslaw06_Of.f k t.f0 t.f1) (t.f0, t.f1) := by
 refine S30.ind ?_
 intro f l ih hok
 have hl := hok.len
 have hks := hok.kid
 have hloop : ∀ (m i : Nat), l.length - i = m → i ≤ l.length → Ev (fun k => soriteslaw06_Of.l0 k (i : Int) f l f (l.take i)) (f, l) := by
  intro m
  induction m with
  | zero =>
   intro i hi hle
   refine Ev.step (f := fun _ => some (f, l)) (fun k => ?_) (Ev.now _)
   rw [soriteslaw06_Of.l0, if_neg (by omega), List.take_of_length_le (by omega)]
  | succ m ihm =>
   intro i hi hle
   have hlt : i < l.length := by omega
   have hl' : l.length ≤ 4398046511104 := hl
   have he := ih l[i] (List.getElem_mem hlt) (hks _ (List.getElem_mem hlt))
   refine Ev.step (f := fun k => (soriteslaw06_Of.f k l[i].f0 l[i].f1).bind fun t => if (l.take i).length < 4398046511104 then soriteslaw06_Of.l0 k ((i + 1 : Nat) : Int) f l f (l.take i ++ [(⟨t.1, t.2⟩ : S30)]) else none) (fun k => ?_) (Ev.bind he ?_)
   ·rw [soriteslaw06_Of.l0, if_pos (by omega), if_pos (by omega), rd_at l i hlt, show wrap64 ((i : Int) + 1) = ((i + 1 : Nat) : Int) from by unfold wrap64; omega]
   ·simp only [List.length_take]
    simp only [if_pos (show min i l.length < 4398046511104 by omega)]
    have := ihm (i + 1) (by omega) (by omega)
    rw [List.take_succ_eq_append_getElem hlt] at this
    simp only [S30.eta]
    exact this
 refine Ev.step (f := fun k => soriteslaw06_Of.l0 k 0 f l f []) (fun k => ?_) ?_
 ·rw [soriteslaw06_Of.f]
 ·exact hloop l.length 0 rfl (by omega)
section
variable {H : Type} {enc : TypeId × Value → H} {W : World} {base b0 : Nat} {sp : Nat → Bool} {held : Bool}
def Light (t : TypeId) (d : DataW H) : Prop := ∀ n ∈ d.weights Try.prog t, n ≤ reachBytes
theorem bytes24 : Try.prog.bytesOf 24 = 32 := by kernel_rfl
theorem reach_len {n m : Nat} (h : (n + m) * 32 ≤ reachBytes) : n ≤ 4398046511104 := by have := reachBytes_lt; omega
theorem weights_all {P : Program} {e : TypeId} : ∀ {ds : List (DataW H)} {d : DataW H}, d ∈ ds → ∀ n ∈ d.weights P e, n ∈ DataW.weightsAll P e ds
 | d0 :: ds, d, hd, n, hn => by
  simp only [DataW.weightsAll, List.mem_append]
  rcases List.mem_cons.1 hd with rfl | h
  ·exact .inl hn
  ·exact .inr (weights_all h n hn)
theorem wide_rows {fuel : Nat} (IH : ∀ cs x, DataW.trod enc Try.prog W base sp held fuel 24 cs = some x → Light 24 x.1 → ∃ t : S24, OpenT W cs t ∧ Wd t) {a : Addr} {len : Nat} {ys : List (DataW H × List MemPlace)} (hys : ys.length = len) (hm : len ≤ maxLen)
  (hel : ∀ i, i < len → (W.cells? base (a.add (i * Try.prog.cellsOf 24)) (Try.prog.cellsOf 24)).bind (DataW.trod enc Try.prog W base sp held fuel 24) = ys[i]?) (hls : ∀ y ∈ ys, Light 24 y.1) : ∃ l : List S24, l.length = len ∧ k24.C W (some a) l.length l ∧ ∀ t ∈ l, Wd t := by
 have hc : Try.prog.cellsOf 24 = 2 := by kernel_rfl
 have h1 : ∀ i, i < len → ∃ t : S24, (∃ cs, W.cells? base (a.add (i * 2)) 2 = some cs ∧ OpenT W cs t) ∧ Wd t := by
  intro i hi
  have h := hel i hi
  rw [List.getElem?_eq_getElem (by omega), hc, Option.bind_eq_some_iff] at h
  obtain ⟨cs, hcs, ht⟩ := h
  obtain ⟨t, ht, hw⟩ := IH _ _ ht (hls _ (List.getElem_mem _))
  exact ⟨t, ⟨cs, hcs, ht⟩, hw⟩
 obtain ⟨l, hl, hP⟩ := list_of _ len h1
 refine ⟨l, hl, ⟨rfl, by rw [hl]; exact hm, fun _ => ⟨a, rfl, fun j p hj => ?_⟩⟩, fun t ht => ?_⟩
 ·obtain ⟨⟨cs, hcs, ht⟩, _⟩ := hP j p hj
  obtain ⟨_, hlen, hcell⟩ := World.cells?_some hcs
  refine ⟨cs, hlen, ht.K, fun i u hu => ?_⟩
  have hi : i < 2 := by
   have := (List.getElem?_eq_some_iff.1 hu).1
   omega
  have h := hcell i hi
  rw [hu] at h
  rw [← h]
  show W.cell? _ = W.cell? _
  congr 1
  show a.add (j * 2 + i) = (a.add (j * 2)).add i
  simp [Addr.add, Nat.add_assoc]
  by_cases hj0 : j = 0 <;> by_cases hi0 : i = 0 <;> (have hj2 : ¬ (j ≠ 0 ∧ j * 2 = 0) := by omega) <;> simp [hj0, hi0, Nat.add_assoc] <;> (rw [if_neg (show ¬ j * 2 = 0 by omega)]; simp [Nat.add_assoc])
 ·obtain ⟨j, hj, he⟩ := List.mem_iff_getElem.1 ht
  exact (hP j t (by rw [List.getElem?_eq_getElem hj, he])).2
theorem light_parts {fs : Array Field} {t : TypeId} (hu : Try.prog.underlying t = some (.struct fs)) {xs : List (DataW H × List MemPlace)} (h : Light t (.agg (xs.map (·.1)) : DataW H)) (i : Nat) (f : Field) (hf : fs[i]? = some f) (x : DataW H × List MemPlace) (hx : xs[i]? = some x) : Light f.type x.1 := by
 intro n hn
 refine h n ?_
 unfold DataW.weights
 rw [hu]
 refine DataW.weights_mem_each (j := i) (t := f.type) (d := x.1) ?_ (by rw [List.getElem?_map, hx]; rfl) n hn
 rw [List.getElem?_map]
 rw [show fs.toList[i]? = fs[i]? by simp, hf]
 rfl
theorem light_row {t e : TypeId} (hu : Try.prog.underlying t = some (.slice e)) {elems rest : List (DataW H × List MemPlace)} (h : Light t (.slice (elems.map (·.1)) (rest.map (·.1)) : DataW H)) : (elems.length + rest.length) * Try.prog.bytesOf e ≤ reachBytes ∧ ∀ y ∈ elems, Light e y.1 := by
 have h1 : ∀ n, n ∈ (elems.length + rest.length) * Try.prog.bytesOf e :: (DataW.weightsAll Try.prog e (elems.map (·.1)) ++ DataW.weightsAll Try.prog e (rest.map (·.1))) → n ≤ reachBytes := by
  intro n hn
  refine h n ?_
  unfold DataW.weights
  rw [hu]
  simpa using hn
 exact ⟨h1 _ (by simp), fun y hy n hn => h1 n (by simp only [List.mem_cons, List.mem_append]; exact .inr (.inl (weights_all (List.mem_map_of_mem hy) n hn)))⟩
theorem wide_T24 : ∀ (fuel : Nat) (cs : List Value) (x : DataW H × List MemPlace), DataW.trod enc Try.prog W base sp held fuel 24 cs = some x → Light 24 x.1 → ∃ t : S24, OpenT W cs t ∧ Wd t := by
 intro fuel
 induction fuel using Nat.strongRecOn with
 | ind fuel IH =>
  intro cs x h hw
  obtain ⟨xs, n, rfl, rfl, hlen, hxs, hf⟩ := DataW.trod_struct Try.underlying24 h
  have hc : Try.prog.cellsOf 24 = 2 := by kernel_rfl
  rw [hc] at hlen
  obtain ⟨u, v, rfl⟩ : ∃ u v, cs = [u, v] := by
   match cs, hlen with
   | [u, v], _ => exact ⟨u, v, rfl⟩
  obtain ⟨y0, y1, rfl⟩ : ∃ u v, xs = [u, v] := by
   match xs, hxs with
   | [u, v], _ => exact ⟨u, v, rfl⟩
  have h0 := hf 0 _ rfl
  have h1 := hf 1 _ rfl
  have hw1 := light_parts Try.underlying24 hw 1 _ rfl y1 rfl
  have hc3 : Try.prog.cellsOf 3 = 1 := by kernel_rfl
  have hc22 : Try.prog.cellsOf 22 = 1 := by kernel_rfl
  simp only [hc3, hc22, List.drop_zero, List.take_succ_cons, List.take_zero, List.drop_succ_cons, List.getElem?_cons_zero, List.getElem?_cons_succ] at h0 h1
  obtain ⟨f, hfe, _, hwf⟩ := DataW.trod_int Try.underlying3 h0
  injection hfe with hfe
  subst hfe
  rcases DataW.trod_slice Try.underlying22 h1 with ⟨he, _⟩ | ⟨a, len, cap, elems, rest, m, hm, he, hx, _, hlc, hcm, hel, hget, _⟩
  ·injection he with he
   subst he
   exact ⟨⟨f, []⟩, ⟨none, 0, rfl, Nat.le_refl _, ⟨rfl, Nat.zero_le _, fun h => absurd h (Nat.lt_irrefl _)⟩, hwf⟩, .mk f [] (Nat.zero_le _) (fun x hx => by simp at hx)⟩
  ·injection he with he
   subst he
   rw [hx] at hw1
   obtain ⟨hb, hl24⟩ := light_row Try.underlying22 hw1
   rw [bytes24] at hb
   obtain ⟨l, hl, hC, hWd⟩ := wide_rows (IH m (by omega)) hel (by omega) hget hl24
   subst hl
   exact ⟨⟨f, l⟩, ⟨some a, cap, rfl, hlc, hC, hwf⟩, .mk f l (by rw [← hel]; exact reach_len hb) hWd⟩
theorem wide_Ts {v : Value} {d : DataW H} {p : List MemPlace} (hv : Value.okWide Try.prog W .any b0 22 v) (h : DataW.Trod enc Try.prog W base sp held 22 v d p) (hw : Light 22 d) :
  ∃ (l : List S24) (A : Option Addr) (c : Nat), v = .slice A l.length c ∧ l.length ≤ c ∧ k24.C W A l.length l ∧ ∀ t ∈ l, Wd t := by
 obtain ⟨A0, n0, c0, rfl⟩ := okWide_slice Try.underlying22 hv
 obtain ⟨fuel, h⟩ := h
 rcases DataW.trod_slice Try.underlying22 h with ⟨he, _⟩ | ⟨a, len, cap, elems, rest, m, hm, he, hx, _, hlc, hcm, hel, hget, _⟩
 ·simp [Value.cells] at he
  obtain ⟨rfl, rfl, rfl⟩ := he
  exact ⟨[], none, 0, rfl, Nat.le_refl _, ⟨rfl, Nat.zero_le _, fun h => absurd h (Nat.lt_irrefl _)⟩, fun t ht => by simp at ht⟩
 ·simp [Value.cells] at he
  obtain ⟨rfl, rfl, rfl⟩ := he
  injection hx with hx1 hx2
  subst hx1
  obtain ⟨l, hl, hC, hWd⟩ := wide_rows (wide_T24 m) hel (by omega) hget (light_row Try.underlying22 hw).2
  subst hl
  exact ⟨l, some a, c0, rfl, hlc, hC, hWd⟩
theorem light_at {ts : List TypeId} {ds : List (DataW H)} (h : (DataW.weightsEach Try.prog ts ds).all (· ≤ reachBytes) = true) (j : Nat) (t : TypeId) (d : DataW H) (ht : ts[j]? = some t) (hd : ds[j]? = some d) : Light t d := fun n hn => by
 simpa using List.all_eq_true.1 h n (DataW.weights_mem_each ht hd n hn)
end
end
section
theorem C_one {α : Type} (d : Kd α) {W : World} {g t : Nat} {x : α} {cs : List Value} (h : d.K W x cs) (hb : W.heap[g]? = some (.cells cs.toArray t (0, 0))) : d.C W (some ⟨g, 0, none⟩) 1 [x] := by
 refine ⟨rfl, by simp, fun _ => ⟨_, rfl, fun j p hj => ?_⟩⟩
 match j with
 | 0 =>
  simp at hj
  subst hj
  refine ⟨cs, d.K_len h, h, fun i u hi => ?_⟩
  rw [show (⟨g, 0, none⟩ : Addr).add (0 * d.sz + i) = ⟨g, i, none⟩ by simp [Addr.add_lit]]
  exact (yaa_ hb _).trans (by simpa using hi)
 | j + 1 => simp at hj
end
section
abbrev OwnR (w0 w : World) (v : Value) (xs : List S30) : Prop := Kd.N k30 30 w w0.heap.size (fun _ => True) v xs
structure MoreJ (w0 : World) (x : List S30) (z : S30) (Z : Option Addr) (cz : Nat) (v : Nat → Value) (d : Nat → Bool) (w : World) : Prop where
 j0 : d 0 = true → d 2 = false → OwnR w0 w (v 0) [] ∧ ∃ b, (v 0).ownBlock = some b
 j2 : d 2 = true → d 5 = false → OwnR w0 w (v 2) x
 j4 : d 4 = true → d 5 = false → ∃ g, v 4 = .slice (some ⟨g, 0, none⟩) 1 1 ∧ w0.heap.size ≤ g ∧ w.heap[g]? = some (.cells #[.int .i64 z.f0, .slice Z z.f1.length cz] 30 (0, 0)) ∧ (d 2 = true → some g ≠ (v 2).ownBlock) ∧ (d 0 = true → d 2 = false → some g ≠ (v 0).ownBlock)
 j5 : d 5 = true → OwnR w0 w (v 5) (x ++ [z])
 j6 : d 6 = true → v 6 = v 5
 d2 : d 2 = true → d 0 = true
 d5 : d 5 = true → d 2 = true ∧ d 4 = true
 d6 : d 6 = true → d 5 = true
theorem MoreJ.start (w0 : World) (x : List S30) (z : S30) (Z : Option Addr) (cz : Nat) (v : Nat → Value) (w : World) : MoreJ w0 x z Z cz v (fun _ => false) w :=
 ⟨fun h => (by cases h), fun h => (by cases h), fun h => (by cases h), fun h => (by cases h), fun h => (by cases h), fun h => (by cases h), fun h => (by cases h), fun h => (by cases h)⟩
theorem MoreJ.other {w0 : World} {x : List S30} {z : S30} {Z : Option Addr} {cz : Nat} (i : Nat) (hi : i ∉ [0, 2, 4, 5, 6]) (v : Nat → Value) (d : Nat → Bool) (w w' : World) (u : Value) (h : MoreJ w0 x z Z cz v d w) (hd : d i = false) (hb : Below w.heap.size w w') : MoreJ w0 x z Z cz (upd v i u) (upd d i true) w' := by
 have n : ∀ j, j ∈ [0, 2, 4, 5, 6] → j ≠ i := fun j hj e => hi (e ▸ hj)
 have n0 := n 0 (by simp)
 have n2 := n 2 (by simp)
 have n4 := n 4 (by simp)
 have n5 := n 5 (by simp)
 have n6 := n 6 (by simp)
 constructor
 all_goals simp only [yab_ _ _ n0, yab_ _ _ n2, yab_ _ _ n4, yab_ _ _ n5, yab_ _ _ n6]
 ·exact fun h0 h2 => ⟨Kd.N_below (h.j0 h0 h2).1 hb, (h.j0 h0 h2).2⟩
 ·exact fun h2 h5 => Kd.N_below (h.j2 h2 h5) hb
 ·intro h4 h5
  obtain ⟨g, e1, e2, e3, e4, e5⟩ := h.j4 h4 h5
  exact ⟨g, e1, e2, kB_ e3 hb, e4, e5⟩
 ·exact fun h5 => Kd.N_below (h.j5 h5) hb
 ·exact h.j6
 ·exact h.d2
 ·exact h.d5
 ·exact h.d6
theorem F_one {W W0 : World} {g : Nat} {z : S30} {Z : Option Addr} {cz : Nat} (hb : Below W0.heap.size W0 W) (hl : z.f1.length ≤ cz) (hC : k30.C W0 Z z.f1.length z.f1) (hg : W.heap[g]? = some (.cells #[.int .i64 z.f0, .slice Z z.f1.length cz] 30 (0, 0))) : Kd.F k30 W (fun k => k < W0.heap.size ∨ k = g) (some ⟨g, 0, none⟩) 1 [z] := by
 intro W' hW
 have hF := Kd.F_mono (F_old k30_heap hC hb) (fun k hk => (Or.inl hk : k < W0.heap.size ∨ k = g))
 exact C_one k30 (k30_mk W' z hl (hF W' hW)) ((hW g (.inr rfl) (blk_lt hg)).trans hg)
set_option maxHeartbeats 4000000 in
set_option maxRecDepth 100000 in
theorem OrderMulti_r25 {id : Nat} {a : Act} {w : World} {Q : Exit → Act → World → Prop} {x : List S30} {A : Option Addr} {c g : Nat} {z : S30} {Z : Option Addr} {cz : Nat}
  (hr : regionOk #[{ dst := some 99, op := Op.buildSlice 28 0 #[], type := 28, pos := "law.go:177", after := #[], guard := none }, { dst := some 100, op := Op.move (Operand.tmp 9), type := 28, pos := "law.go:177", after := #[], guard := none }, { dst := some 101, op := Op.call { callee := Callee.builtin Builtin.append, args := #[Operand.tmp 99, Operand.tmp 100], argTypes := #[28, 28] }, type := 28, pos := "law.go:177", after := #[{ on := 0, ground := Ground.data }, { on := 1, ground := Ground.data }], guard := none }, { dst := some 102, op := Op.load 30 (Operand.tmp 15), type := 30, pos := "law.go:177", after := #[], guard := none }, { dst := some 103, op := Op.buildSlice 28 1 #[(0, Operand.tmp 102)], type := 28, pos := "law.go:177", after := #[{ on := 3, ground := Ground.data }], guard := none }, { dst := some 104, op := Op.call { callee := Callee.builtin Builtin.append, args := #[Operand.tmp 101, Operand.tmp 103], argTypes := #[28, 28] }, type := 28, pos := "law.go:177", after := #[{ on := 2, ground := Ground.data }, { on := 4, ground := Ground.data }, { on := 2, ground := Ground.chain }], guard := none }, { dst := some 17, op := Op.assign (Operand.tmp 104), type := 28, pos := "law.go:177", after := #[{ on := 5, ground := Ground.data }, { on := 5, ground := Ground.chain }, { on := 0, ground := Ground.phase }, { on := 1, ground := Ground.phase }, { on := 2, ground := Ground.phase }, { on := 3, ground := Ground.phase }, { on := 4, ground := Ground.phase }, { on := 5, ground := Ground.phase }], guard := none }] a.tmps.size = true)
  (hT9 : a.tmps.getD 9 undef = .slice A x.length c) (hT15 : a.tmps.getD 15 undef = .pointer (some ⟨g, 0, none⟩)) (hX : w.heap[g]? = some (.cells #[.int .i64 z.f0, .slice Z z.f1.length cz] 30 (0, 0)))
  (hC : k30.C w A x.length x) (hlz : z.f1.length ≤ cz) (hCz : k30.C w Z z.f1.length z.f1) (hn : x.length ≤ 1000)
  (h : ∀ v w', Below w.heap.size w w' → OwnR w w' (v 6) (x ++ [z]) → Q .normal { tmps := layL [some 99, some 100, some 101, some 102, some 103, some 104, some 17] 0 v a.tmps, defers := a.defers } w') :
  (Code.region id #[{ dst := some 99, op := Op.buildSlice 28 0 #[], type := 28, pos := "law.go:177", after := #[], guard := none }, { dst := some 100, op := Op.move (Operand.tmp 9), type := 28, pos := "law.go:177", after := #[], guard := none }, { dst := some 101, op := Op.call { callee := Callee.builtin Builtin.append, args := #[Operand.tmp 99, Operand.tmp 100], argTypes := #[28, 28] }, type := 28, pos := "law.go:177", after := #[{ on := 0, ground := Ground.data }, { on := 1, ground := Ground.data }], guard := none }, { dst := some 102, op := Op.load 30 (Operand.tmp 15), type := 30, pos := "law.go:177", after := #[], guard := none }, { dst := some 103, op := Op.buildSlice 28 1 #[(0, Operand.tmp 102)], type := 28, pos := "law.go:177", after := #[{ on := 3, ground := Ground.data }], guard := none }, { dst := some 104, op := Op.call { callee := Callee.builtin Builtin.append, args := #[Operand.tmp 101, Operand.tmp 103], argTypes := #[28, 28] }, type := 28, pos := "law.go:177", after := #[{ on := 2, ground := Ground.data }, { on := 4, ground := Ground.data }, { on := 2, ground := Ground.chain }], guard := none }, { dst := some 17, op := Op.assign (Operand.tmp 104), type := 28, pos := "law.go:177", after := #[{ on := 5, ground := Ground.data }, { on := 5, ground := Ground.chain }, { on := 0, ground := Ground.phase }, { on := 1, ground := Ground.phase }, { on := 2, ground := Ground.phase }, { on := 3, ground := Ground.phase }, { on := 4, ground := Ground.phase }, { on := 5, ground := Ground.phase }], guard := none }] true).wp Try.prog Q a w := by
 have hmx : Try.prog.follows .mixedOrders = true := by kernel_rfl
 have hJo : ∀ i, i ∉ [0, 2, 4, 5, 6] → ∀ v d (w1 w2 : World) u, MoreJ w x z Z cz v d w1 → d i = false → Below w1.heap.size w1 w2 → MoreJ w x z Z cz (upd v i u) (upd d i true) w2 := MoreJ.other
 refine region_detJ (fun _ _ => True) (MoreJ w x z Z cz) 7 trivial (fun v => MoreJ.start w x z Z cz v _) hmx hr rfl ?_
 refine DetJ.cons (o := { dst := some 99, op := Op.buildSlice 28 0 #[], type := 28, pos := "law.go:177", after := #[], guard := none }) (fun _ _ => True) rfl (by decide) (fun _ _ _ _ _ => trivial) (fun v d T w' hb hj hd0 hd hdd hB K hK => ?s0) ?r0
 case s0 =>
  refine Kd.N_lit_step (a := { tmps := T, defers := a.defers }) k30 (w0 := w) w.heap.size 30 (yac_ _ rfl) rfl (xs := []) (inner := []) (ok := fun _ => True) (okp := fun _ => True) ?hrun ⟨rfl, fun i p hp => by simp at hp⟩ (fun _ _ => trivial) trivial hb hb.size (by decide) ?_
  case hrun => first | (go_simp; done) | (go_simp; rfl)
  intro v1 w1 hN hb1 hg1 hat
  have hbb : Below w'.heap.size w' w1 := ⟨hg1.os, hg1.tape, hg1.output, hg1.size, fun k hk => hg1.block k hk (by simp)⟩
  refine hK _ _ trivial hb1 trivial ?_
  obtain ⟨b, hb2, hbl⟩ := hat
  have n2 : d 2 = false := by cases h2 : d 2 with | false => rfl | true => rw [hj.d2 h2] at hd0; cases hd0
  have n5 : d 5 = false := by cases h5 : d 5 with | false => rfl | true => rw [(hj.d5 h5).1] at n2; cases n2
  have n6 : d 6 = false := by cases h6 : d 6 with | false => rfl | true => rw [hj.d6 h6] at n5; cases n5
  constructor
  all_goals simp only [upd_same, yab_ _ _ (show (2 : Nat) ≠ 0 by decide), yab_ _ _ (show (4 : Nat) ≠ 0 by decide), yab_ _ _ (show (5 : Nat) ≠ 0 by decide), yab_ _ _ (show (6 : Nat) ≠ 0 by decide)]
  ·exact fun _ _ => ⟨hN, b, hb2⟩
  ·exact fun h2 => by rw [n2] at h2; cases h2
  ·intro h4 h5
   obtain ⟨g4, e1, e2, e3, e4, e5⟩ := hj.j4 h4 h5
   exact ⟨g4, e1, e2, kB_ e3 hbb, (fun h2 => by rw [n2] at h2; cases h2), (fun _ _ he => by rw [hb2] at he; injection he with he; have := blk_lt e3; omega)⟩
  ·exact fun h5 => by rw [n5] at h5; cases h5
  ·exact fun h6 => by rw [n6] at h6; cases h6
  ·exact fun _ => trivial
  ·exact fun h5 => by rw [n5] at h5; cases h5
  ·exact fun h6 => by rw [n6] at h6; cases h6
 refine DetJ.is (o := { dst := some 100, op := Op.move (Operand.tmp 9), type := 28, pos := "law.go:177", after := #[], guard := none }) (u := .slice A x.length c) (fun _ _ _ => trivial) [0, 2, 4, 5, 6] hJo rfl (by decide) (by decide) (fun T w' hb hd hB K hK => ?s1) ?r1
 case s1 =>
  have e9 := (hB 9 (by kernel_rfl)).trans hT9
  rw [if_pos (yac_ _ rfl)]
  clear hd hB
  go_simp
  exact hK _ (Below.refl _ _)
 refine DetJ.cons (o := { dst := some 101, op := Op.call { callee := Callee.builtin Builtin.append, args := #[Operand.tmp 99, Operand.tmp 100], argTypes := #[28, 28] }, type := 28, pos := "law.go:177", after := #[{ on := 0, ground := Ground.data }, { on := 1, ground := Ground.data }], guard := none }) (fun _ _ => True) rfl (by decide) (fun _ _ _ _ _ => trivial) (fun v d T w' hb hj hd0 hd hdd hB K hK => ?s2) ?r2
 case s2 =>
  have e1 := hd 1 100 _ (by decide) (by kernel_rfl) rfl rfl
  replace e1 : T.getD 100 undef = .slice A x.length c := e1
  obtain ⟨d0, e0⟩ := hdd 0 (by kernel_rfl)
  replace e0 : T.getD 99 undef = v 0 := e0 99 rfl
  obtain ⟨hN, b, hb0⟩ := hj.j0 d0 hd0
  have hge := Kd.N_base hN b hb0
  refine Kd.N_append_rows_step (a := { tmps := T, defers := a.defers }) k30 (w0 := w) w.heap.size (yac_ _ rfl) (.tmp 99) (.tmp 100) 28 30 (.agg #[(.int .i64 0), (.slice none 0 0)]) 32 rfl Try.underlying28 info30 rfl (by decide) (by omega) (v 0) [] x A x.length c (fun _ => True) (fun k => k < w.heap.size) e0 e1 hN (F_old k30_heap hC hb) (fun k hk => ⟨trivial, fun he => by rw [hb0] at he; injection he with he; omega⟩) (fun _ _ => trivial) hb hb.size (by simp; omega) ?_
  intro v1 w1 hN1 hb1 hg1 hat
  rw [List.nil_append] at hN1
  refine hK _ _ trivial hb1 trivial ?_
  have n5 : d 5 = false := by cases h5 : d 5 with | false => rfl | true => rw [(hj.d5 h5).1] at hd0; cases hd0
  have n6 : d 6 = false := by cases h6 : d 6 with | false => rfl | true => rw [hj.d6 h6] at n5; cases n5
  constructor
  all_goals simp only [upd_same, yab_ _ _ (show (0 : Nat) ≠ 2 by decide), yab_ _ _ (show (4 : Nat) ≠ 2 by decide), yab_ _ _ (show (5 : Nat) ≠ 2 by decide), yab_ _ _ (show (6 : Nat) ≠ 2 by decide)]
  ·exact fun _ h2 => by cases h2
  ·exact fun _ _ => hN1
  ·intro h4 h5
   obtain ⟨g4, e1, e2, e3, e4, e5⟩ := hj.j4 h4 h5
   have hne := e5 d0 hd0
   refine ⟨g4, e1, e2, (hg1.block g4 (blk_lt e3) hne).trans e3, fun _ he => ?_, fun _ h2 => by cases h2⟩
   rcases hat with hat | ⟨b2, hb2, hl2⟩
   ·rw [hat] at he; exact hne he
   ·rw [hb2] at he; injection he with he; have := blk_lt e3; omega
  ·exact fun h5 => by rw [n5] at h5; cases h5
  ·exact fun h6 => by rw [n6] at h6; cases h6
  ·exact fun _ => d0
  ·exact fun h5 => by rw [n5] at h5; cases h5
  ·exact fun h6 => by rw [n6] at h6; cases h6
 refine DetJ.is (o := { dst := some 102, op := Op.load 30 (Operand.tmp 15), type := 30, pos := "law.go:177", after := #[], guard := none }) (u := .agg #[.int .i64 z.f0, .slice Z z.f1.length cz]) (fun _ _ _ => trivial) [0, 2, 4, 5, 6] hJo rfl (by decide) (by decide) (fun T w' hb hd hB K hK => ?s3) ?r3
 case s3 =>
  have e15 := (hB 15 (by kernel_rfl)).trans hT15
  have q0 : w'.cell? ⟨g, 0, none⟩ = some (.int .i64 z.f0) := (yaa_ (kB_ hX hb) 0).trans rfl
  have q1 : w'.cell? ⟨g, 1, none⟩ = some (.slice Z z.f1.length cz) := (yaa_ (kB_ hX hb) 1).trans rfl
  rw [if_pos (yac_ _ rfl)]
  clear hd hB
  go_simp
  exact hK _ (Below.refl _ _)
 refine DetJ.cons (o := { dst := some 103, op := Op.buildSlice 28 1 #[(0, Operand.tmp 102)], type := 28, pos := "law.go:177", after := #[{ on := 3, ground := Ground.data }], guard := none }) (fun _ _ => True) rfl (by decide) (fun _ _ _ _ _ => trivial) (fun v d T w' hb hj hd0 hd hdd hB K hK => ?s4) ?r4
 case s4 =>
  have e102 := hd 3 102 _ (by decide) (by kernel_rfl) rfl rfl
  replace e102 : T.getD 102 undef = _ := e102
  have z102 : T[102]?.getD undef = _ := Array.getD_eq_getD_getElem?.symm.trans e102
  rw [if_pos (yac_ _ rfl)]
  have hb4 : Below w'.heap.size w' (w'.alloc (.cells #[.int .i64 z.f0, .slice Z z.f1.length cz] 30)) := bA_ (Below.refl _ _) _
  have hJ4 : MoreJ w x z Z cz (upd v 4 (.slice (some ⟨w'.heap.size, 0, none⟩) 1 1)) (upd d 4 true) (w'.alloc (.cells #[.int .i64 z.f0, .slice Z z.f1.length cz] 30)) := by
   have n5 : d 5 = false := by cases h5 : d 5 with | false => rfl | true => rw [(hj.d5 h5).2] at hd0; cases hd0
   have n6 : d 6 = false := by cases h6 : d 6 with | false => rfl | true => rw [hj.d6 h6] at n5; cases n5
   constructor
   all_goals simp only [upd_same, yab_ _ _ (show (0 : Nat) ≠ 4 by decide), yab_ _ _ (show (2 : Nat) ≠ 4 by decide), yab_ _ _ (show (5 : Nat) ≠ 4 by decide), yab_ _ _ (show (6 : Nat) ≠ 4 by decide)]
   ·exact fun h0 h2 => ⟨Kd.N_below (hj.j0 h0 h2).1 hb4, (hj.j0 h0 h2).2⟩
   ·exact fun h2 h5 => Kd.N_below (hj.j2 h2 h5) hb4
   ·exact fun _ _ => ⟨_, rfl, hb.size, blk_new _ _, (fun h2 he => by have := Kd.N_lt (hj.j2 h2 n5) _ he.symm; omega), fun h0 h2 he => by have := Kd.N_lt (hj.j0 h0 h2).1 _ he.symm; omega⟩
   ·exact fun h5 => by rw [n5] at h5; cases h5
   ·exact fun h6 => by rw [n6] at h6; cases h6
   ·exact hj.d2
   ·exact fun h5 => by rw [n5] at h5; cases h5
   ·exact fun h6 => by rw [n6] at h6; cases h6
  have hK4 := hK _ _ trivial (hb.trans (hb4.mono hb.size)) trivial hJ4
  clear hd hB hdd hJ4 hK
  go_simp
  exact hK4
 refine DetJ.cons (o := { dst := some 104, op := Op.call { callee := Callee.builtin Builtin.append, args := #[Operand.tmp 101, Operand.tmp 103], argTypes := #[28, 28] }, type := 28, pos := "law.go:177", after := #[{ on := 2, ground := Ground.data }, { on := 4, ground := Ground.data }, { on := 2, ground := Ground.chain }], guard := none }) (fun _ _ => True) rfl (by decide) (fun _ _ _ _ _ => trivial) (fun v d T w' hb hj hd0 hd hdd hB K hK => ?s5) ?r5
 case s5 =>
  obtain ⟨d2, e2⟩ := hdd 2 (by kernel_rfl)
  replace e2 : T.getD 101 undef = v 2 := e2 101 rfl
  obtain ⟨d4, e4⟩ := hdd 4 (by kernel_rfl)
  replace e4 : T.getD 103 undef = v 4 := e4 103 rfl
  have hN := hj.j2 d2 hd0
  obtain ⟨g4, f1, f2, f3, f4, _⟩ := hj.j4 d4 hd0
  rw [f1] at e4
  have hokp : ∀ k, k < w.heap.size ∨ k = g4 → True ∧ some k ≠ (v 2).ownBlock := by
   intro k hk
   refine ⟨trivial, fun he => ?_⟩
   rcases hk with hk | rfl
   ·have := Kd.N_base hN k he.symm; omega
   ·exact f4 d2 he
  refine Kd.N_append_rows_step (a := { tmps := T, defers := a.defers }) k30 (w0 := w) w.heap.size (yac_ _ rfl) (.tmp 101) (.tmp 103) 28 30 (.agg #[(.int .i64 0), (.slice none 0 0)]) 32 rfl Try.underlying28 info30 rfl (by decide) (by omega) (v 2) x [z] (some ⟨g4, 0, none⟩) 1 1 (fun _ => True) (fun k => k < w.heap.size ∨ k = g4) e2 e4 hN (F_one hb hlz hCz f3) hokp (fun _ _ => trivial) hb hb.size (by omega) ?_
  intro v1 w1 hN1 hb1 hg1 hat
  refine hK _ _ trivial hb1 trivial ?_
  have n6 : d 6 = false := by cases h6 : d 6 with | false => rfl | true => rw [hj.d6 h6] at hd0; cases hd0
  constructor
  all_goals simp only [upd_same, yab_ _ _ (show (0 : Nat) ≠ 5 by decide), yab_ _ _ (show (2 : Nat) ≠ 5 by decide), yab_ _ _ (show (4 : Nat) ≠ 5 by decide), yab_ _ _ (show (6 : Nat) ≠ 5 by decide)]
  ·exact fun _ h2 => by rw [d2] at h2; cases h2
  ·exact fun _ h5 => by cases h5
  ·exact fun _ h5 => by cases h5
  ·exact fun _ => hN1
  ·exact fun h6 => by rw [n6] at h6; cases h6
  ·exact hj.d2
  ·exact fun _ => ⟨d2, d4⟩
  ·exact fun h6 => by rw [n6] at h6; cases h6
 refine DetJ.cons (o := { dst := some 17, op := Op.assign (Operand.tmp 104), type := 28, pos := "law.go:177", after := #[{ on := 5, ground := Ground.data }, { on := 5, ground := Ground.chain }, { on := 0, ground := Ground.phase }, { on := 1, ground := Ground.phase }, { on := 2, ground := Ground.phase }, { on := 3, ground := Ground.phase }, { on := 4, ground := Ground.phase }, { on := 5, ground := Ground.phase }], guard := none }) (fun _ _ => True) rfl (by decide) (fun _ _ _ _ _ => trivial) (fun v d T w' hb hj hd0 hd hdd hB K hK => ?s6) ?r6
 case s6 =>
  obtain ⟨d5, e5⟩ := hdd 5 (by kernel_rfl)
  replace e5 : T.getD 104 undef = v 5 := e5 104 rfl
  rw [if_pos (yac_ _ rfl)]
  have hJ6 : MoreJ w x z Z cz (upd v 6 (v 5)) (upd d 6 true) w' := by
   constructor
   all_goals simp only [upd_same, yab_ _ _ (show (0 : Nat) ≠ 6 by decide), yab_ _ _ (show (2 : Nat) ≠ 6 by decide), yab_ _ _ (show (4 : Nat) ≠ 6 by decide), yab_ _ _ (show (5 : Nat) ≠ 6 by decide)]
   ·exact hj.j0
   ·exact hj.j2
   ·exact hj.j4
   ·exact hj.j5
   ·exact fun _ => trivial
   ·exact hj.d2
   ·exact hj.d5
   ·exact fun _ => d5
  have hK6 := hK _ _ trivial hb trivial hJ6
  clear hd hB hdd hJ6 hK
  go_simp
  exact hK6
 refine DetJ.done [some 99, some 100, some 101, some 102, some 103, some 104, some 17] (by kernel_rfl) rfl rfl ?_
 intro v d w' hb hv hall hJ
 exact h v w' hb (by rw [hJ.j6 (hall 6 (by decide))]; exact hJ.j5 (hall 5 (by decide)))
set_option maxHeartbeats 4000000 in
set_option maxRecDepth 100000 in
theorem OrderMulti_r26 {id : Nat} {a : Act} {w : World} {Q : Exit → Act → World → Prop} {x : List S30} {A : Option Addr} {c g : Nat} {z : S30} {Z : Option Addr} {cz : Nat}
  (hr : regionOk #[{ dst := some 105, op := Op.buildSlice 28 0 #[], type := 28, pos := "law.go:178", after := #[], guard := none }, { dst := some 106, op := Op.move (Operand.tmp 10), type := 28, pos := "law.go:178", after := #[], guard := none }, { dst := some 107, op := Op.call { callee := Callee.builtin Builtin.append, args := #[Operand.tmp 105, Operand.tmp 106], argTypes := #[28, 28] }, type := 28, pos := "law.go:178", after := #[{ on := 0, ground := Ground.data }, { on := 1, ground := Ground.data }], guard := none }, { dst := some 108, op := Op.load 30 (Operand.tmp 15), type := 30, pos := "law.go:178", after := #[], guard := none }, { dst := some 109, op := Op.buildSlice 28 1 #[(0, Operand.tmp 108)], type := 28, pos := "law.go:178", after := #[{ on := 3, ground := Ground.data }], guard := none }, { dst := some 110, op := Op.call { callee := Callee.builtin Builtin.append, args := #[Operand.tmp 107, Operand.tmp 109], argTypes := #[28, 28] }, type := 28, pos := "law.go:178", after := #[{ on := 2, ground := Ground.data }, { on := 4, ground := Ground.data }, { on := 2, ground := Ground.chain }], guard := none }, { dst := some 18, op := Op.assign (Operand.tmp 110), type := 28, pos := "law.go:178", after := #[{ on := 5, ground := Ground.data }, { on := 5, ground := Ground.chain }, { on := 0, ground := Ground.phase }, { on := 1, ground := Ground.phase }, { on := 2, ground := Ground.phase }, { on := 3, ground := Ground.phase }, { on := 4, ground := Ground.phase }, { on := 5, ground := Ground.phase }], guard := none }] a.tmps.size = true)
  (hT10 : a.tmps.getD 10 undef = .slice A x.length c) (hT15 : a.tmps.getD 15 undef = .pointer (some ⟨g, 0, none⟩)) (hX : w.heap[g]? = some (.cells #[.int .i64 z.f0, .slice Z z.f1.length cz] 30 (0, 0)))
  (hC : k30.C w A x.length x) (hlz : z.f1.length ≤ cz) (hCz : k30.C w Z z.f1.length z.f1) (hn : x.length ≤ 1000)
  (h : ∀ v w', Below w.heap.size w w' → OwnR w w' (v 6) (x ++ [z]) → Q .normal { tmps := layL [some 105, some 106, some 107, some 108, some 109, some 110, some 18] 0 v a.tmps, defers := a.defers } w') :
  (Code.region id #[{ dst := some 105, op := Op.buildSlice 28 0 #[], type := 28, pos := "law.go:178", after := #[], guard := none }, { dst := some 106, op := Op.move (Operand.tmp 10), type := 28, pos := "law.go:178", after := #[], guard := none }, { dst := some 107, op := Op.call { callee := Callee.builtin Builtin.append, args := #[Operand.tmp 105, Operand.tmp 106], argTypes := #[28, 28] }, type := 28, pos := "law.go:178", after := #[{ on := 0, ground := Ground.data }, { on := 1, ground := Ground.data }], guard := none }, { dst := some 108, op := Op.load 30 (Operand.tmp 15), type := 30, pos := "law.go:178", after := #[], guard := none }, { dst := some 109, op := Op.buildSlice 28 1 #[(0, Operand.tmp 108)], type := 28, pos := "law.go:178", after := #[{ on := 3, ground := Ground.data }], guard := none }, { dst := some 110, op := Op.call { callee := Callee.builtin Builtin.append, args := #[Operand.tmp 107, Operand.tmp 109], argTypes := #[28, 28] }, type := 28, pos := "law.go:178", after := #[{ on := 2, ground := Ground.data }, { on := 4, ground := Ground.data }, { on := 2, ground := Ground.chain }], guard := none }, { dst := some 18, op := Op.assign (Operand.tmp 110), type := 28, pos := "law.go:178", after := #[{ on := 5, ground := Ground.data }, { on := 5, ground := Ground.chain }, { on := 0, ground := Ground.phase }, { on := 1, ground := Ground.phase }, { on := 2, ground := Ground.phase }, { on := 3, ground := Ground.phase }, { on := 4, ground := Ground.phase }, { on := 5, ground := Ground.phase }], guard := none }] true).wp Try.prog Q a w := by
 have hmx : Try.prog.follows .mixedOrders = true := by kernel_rfl
 have hJo : ∀ i, i ∉ [0, 2, 4, 5, 6] → ∀ v d (w1 w2 : World) u, MoreJ w x z Z cz v d w1 → d i = false → Below w1.heap.size w1 w2 → MoreJ w x z Z cz (upd v i u) (upd d i true) w2 := MoreJ.other
 refine region_detJ (fun _ _ => True) (MoreJ w x z Z cz) 7 trivial (fun v => MoreJ.start w x z Z cz v _) hmx hr rfl ?_
 refine DetJ.cons (o := { dst := some 105, op := Op.buildSlice 28 0 #[], type := 28, pos := "law.go:178", after := #[], guard := none }) (fun _ _ => True) rfl (by decide) (fun _ _ _ _ _ => trivial) (fun v d T w' hb hj hd0 hd hdd hB K hK => ?s0) ?r0
 case s0 =>
  refine Kd.N_lit_step (a := { tmps := T, defers := a.defers }) k30 (w0 := w) w.heap.size 30 (yac_ _ rfl) rfl (xs := []) (inner := []) (ok := fun _ => True) (okp := fun _ => True) ?hrun ⟨rfl, fun i p hp => by simp at hp⟩ (fun _ _ => trivial) trivial hb hb.size (by decide) ?_
  case hrun => first | (go_simp; done) | (go_simp; rfl)
  intro v1 w1 hN hb1 hg1 hat
  have hbb : Below w'.heap.size w' w1 := ⟨hg1.os, hg1.tape, hg1.output, hg1.size, fun k hk => hg1.block k hk (by simp)⟩
  refine hK _ _ trivial hb1 trivial ?_
  obtain ⟨b, hb2, hbl⟩ := hat
  have n2 : d 2 = false := by cases h2 : d 2 with | false => rfl | true => rw [hj.d2 h2] at hd0; cases hd0
  have n5 : d 5 = false := by cases h5 : d 5 with | false => rfl | true => rw [(hj.d5 h5).1] at n2; cases n2
  have n6 : d 6 = false := by cases h6 : d 6 with | false => rfl | true => rw [hj.d6 h6] at n5; cases n5
  constructor
  all_goals simp only [upd_same, yab_ _ _ (show (2 : Nat) ≠ 0 by decide), yab_ _ _ (show (4 : Nat) ≠ 0 by decide), yab_ _ _ (show (5 : Nat) ≠ 0 by decide), yab_ _ _ (show (6 : Nat) ≠ 0 by decide)]
  ·exact fun _ _ => ⟨hN, b, hb2⟩
  ·exact fun h2 => by rw [n2] at h2; cases h2
  ·intro h4 h5
   obtain ⟨g4, e1, e2, e3, e4, e5⟩ := hj.j4 h4 h5
   exact ⟨g4, e1, e2, kB_ e3 hbb, (fun h2 => by rw [n2] at h2; cases h2), (fun _ _ he => by rw [hb2] at he; injection he with he; have := blk_lt e3; omega)⟩
  ·exact fun h5 => by rw [n5] at h5; cases h5
  ·exact fun h6 => by rw [n6] at h6; cases h6
  ·exact fun _ => trivial
  ·exact fun h5 => by rw [n5] at h5; cases h5
  ·exact fun h6 => by rw [n6] at h6; cases h6
 refine DetJ.is (o := { dst := some 106, op := Op.move (Operand.tmp 10), type := 28, pos := "law.go:178", after := #[], guard := none }) (u := .slice A x.length c) (fun _ _ _ => trivial) [0, 2, 4, 5, 6] hJo rfl (by decide) (by decide) (fun T w' hb hd hB K hK => ?s1) ?r1
 case s1 =>
  have e10 := (hB 10 (by kernel_rfl)).trans hT10
  rw [if_pos (yac_ _ rfl)]
  clear hd hB
  go_simp
  exact hK _ (Below.refl _ _)
 refine DetJ.cons (o := { dst := some 107, op := Op.call { callee := Callee.builtin Builtin.append, args := #[Operand.tmp 105, Operand.tmp 106], argTypes := #[28, 28] }, type := 28, pos := "law.go:178", after := #[{ on := 0, ground := Ground.data }, { on := 1, ground := Ground.data }], guard := none }) (fun _ _ => True) rfl (by decide) (fun _ _ _ _ _ => trivial) (fun v d T w' hb hj hd0 hd hdd hB K hK => ?s2) ?r2
 case s2 =>
  have e1 := hd 1 106 _ (by decide) (by kernel_rfl) rfl rfl
  replace e1 : T.getD 106 undef = .slice A x.length c := e1
  obtain ⟨d0, e0⟩ := hdd 0 (by kernel_rfl)
  replace e0 : T.getD 105 undef = v 0 := e0 105 rfl
  obtain ⟨hN, b, hb0⟩ := hj.j0 d0 hd0
  have hge := Kd.N_base hN b hb0
  refine Kd.N_append_rows_step (a := { tmps := T, defers := a.defers }) k30 (w0 := w) w.heap.size (yac_ _ rfl) (.tmp 105) (.tmp 106) 28 30 (.agg #[(.int .i64 0), (.slice none 0 0)]) 32 rfl Try.underlying28 info30 rfl (by decide) (by omega) (v 0) [] x A x.length c (fun _ => True) (fun k => k < w.heap.size) e0 e1 hN (F_old k30_heap hC hb) (fun k hk => ⟨trivial, fun he => by rw [hb0] at he; injection he with he; omega⟩) (fun _ _ => trivial) hb hb.size (by simp; omega) ?_
  intro v1 w1 hN1 hb1 hg1 hat
  rw [List.nil_append] at hN1
  refine hK _ _ trivial hb1 trivial ?_
  have n5 : d 5 = false := by cases h5 : d 5 with | false => rfl | true => rw [(hj.d5 h5).1] at hd0; cases hd0
  have n6 : d 6 = false := by cases h6 : d 6 with | false => rfl | true => rw [hj.d6 h6] at n5; cases n5
  constructor
  all_goals simp only [upd_same, yab_ _ _ (show (0 : Nat) ≠ 2 by decide), yab_ _ _ (show (4 : Nat) ≠ 2 by decide), yab_ _ _ (show (5 : Nat) ≠ 2 by decide), yab_ _ _ (show (6 : Nat) ≠ 2 by decide)]
  ·exact fun _ h2 => by cases h2
  ·exact fun _ _ => hN1
  ·intro h4 h5
   obtain ⟨g4, e1, e2, e3, e4, e5⟩ := hj.j4 h4 h5
   have hne := e5 d0 hd0
   refine ⟨g4, e1, e2, (hg1.block g4 (blk_lt e3) hne).trans e3, fun _ he => ?_, fun _ h2 => by cases h2⟩
   rcases hat with hat | ⟨b2, hb2, hl2⟩
   ·rw [hat] at he; exact hne he
   ·rw [hb2] at he; injection he with he; have := blk_lt e3; omega
  ·exact fun h5 => by rw [n5] at h5; cases h5
  ·exact fun h6 => by rw [n6] at h6; cases h6
  ·exact fun _ => d0
  ·exact fun h5 => by rw [n5] at h5; cases h5
  ·exact fun h6 => by rw [n6] at h6; cases h6
 refine DetJ.is (o := { dst := some 108, op := Op.load 30 (Operand.tmp 15), type := 30, pos := "law.go:178", after := #[], guard := none }) (u := .agg #[.int .i64 z.f0, .slice Z z.f1.length cz]) (fun _ _ _ => trivial) [0, 2, 4, 5, 6] hJo rfl (by decide) (by decide) (fun T w' hb hd hB K hK => ?s3) ?r3
 case s3 =>
  have e15 := (hB 15 (by kernel_rfl)).trans hT15
  have q0 : w'.cell? ⟨g, 0, none⟩ = some (.int .i64 z.f0) := (yaa_ (kB_ hX hb) 0).trans rfl
  have q1 : w'.cell? ⟨g, 1, none⟩ = some (.slice Z z.f1.length cz) := (yaa_ (kB_ hX hb) 1).trans rfl
  rw [if_pos (yac_ _ rfl)]
  clear hd hB
  go_simp
  exact hK _ (Below.refl _ _)
 refine DetJ.cons (o := { dst := some 109, op := Op.buildSlice 28 1 #[(0, Operand.tmp 108)], type := 28, pos := "law.go:178", after := #[{ on := 3, ground := Ground.data }], guard := none }) (fun _ _ => True) rfl (by decide) (fun _ _ _ _ _ => trivial) (fun v d T w' hb hj hd0 hd hdd hB K hK => ?s4) ?r4
 case s4 =>
  have e108 := hd 3 108 _ (by decide) (by kernel_rfl) rfl rfl
  replace e108 : T.getD 108 undef = _ := e108
  have z108 : T[108]?.getD undef = _ := Array.getD_eq_getD_getElem?.symm.trans e108
  rw [if_pos (yac_ _ rfl)]
  have hb4 : Below w'.heap.size w' (w'.alloc (.cells #[.int .i64 z.f0, .slice Z z.f1.length cz] 30)) := bA_ (Below.refl _ _) _
  have hJ4 : MoreJ w x z Z cz (upd v 4 (.slice (some ⟨w'.heap.size, 0, none⟩) 1 1)) (upd d 4 true) (w'.alloc (.cells #[.int .i64 z.f0, .slice Z z.f1.length cz] 30)) := by
   have n5 : d 5 = false := by cases h5 : d 5 with | false => rfl | true => rw [(hj.d5 h5).2] at hd0; cases hd0
   have n6 : d 6 = false := by cases h6 : d 6 with | false => rfl | true => rw [hj.d6 h6] at n5; cases n5
   constructor
   all_goals simp only [upd_same, yab_ _ _ (show (0 : Nat) ≠ 4 by decide), yab_ _ _ (show (2 : Nat) ≠ 4 by decide), yab_ _ _ (show (5 : Nat) ≠ 4 by decide), yab_ _ _ (show (6 : Nat) ≠ 4 by decide)]
   ·exact fun h0 h2 => ⟨Kd.N_below (hj.j0 h0 h2).1 hb4, (hj.j0 h0 h2).2⟩
   ·exact fun h2 h5 => Kd.N_below (hj.j2 h2 h5) hb4
   ·exact fun _ _ => ⟨_, rfl, hb.size, blk_new _ _, (fun h2 he => by have := Kd.N_lt (hj.j2 h2 n5) _ he.symm; omega), fun h0 h2 he => by have := Kd.N_lt (hj.j0 h0 h2).1 _ he.symm; omega⟩
   ·exact fun h5 => by rw [n5] at h5; cases h5
   ·exact fun h6 => by rw [n6] at h6; cases h6
   ·exact hj.d2
   ·exact fun h5 => by rw [n5] at h5; cases h5
   ·exact fun h6 => by rw [n6] at h6; cases h6
  have hK4 := hK _ _ trivial (hb.trans (hb4.mono hb.size)) trivial hJ4
  clear hd hB hdd hJ4 hK
  go_simp
  exact hK4
 refine DetJ.cons (o := { dst := some 110, op := Op.call { callee := Callee.builtin Builtin.append, args := #[Operand.tmp 107, Operand.tmp 109], argTypes := #[28, 28] }, type := 28, pos := "law.go:178", after := #[{ on := 2, ground := Ground.data }, { on := 4, ground := Ground.data }, { on := 2, ground := Ground.chain }], guard := none }) (fun _ _ => True) rfl (by decide) (fun _ _ _ _ _ => trivial) (fun v d T w' hb hj hd0 hd hdd hB K hK => ?s5) ?r5
 case s5 =>
  obtain ⟨d2, e2⟩ := hdd 2 (by kernel_rfl)
  replace e2 : T.getD 107 undef = v 2 := e2 107 rfl
  obtain ⟨d4, e4⟩ := hdd 4 (by kernel_rfl)
  replace e4 : T.getD 109 undef = v 4 := e4 109 rfl
  have hN := hj.j2 d2 hd0
  obtain ⟨g4, f1, f2, f3, f4, _⟩ := hj.j4 d4 hd0
  rw [f1] at e4
  have hokp : ∀ k, k < w.heap.size ∨ k = g4 → True ∧ some k ≠ (v 2).ownBlock := by
   intro k hk
   refine ⟨trivial, fun he => ?_⟩
   rcases hk with hk | rfl
   ·have := Kd.N_base hN k he.symm; omega
   ·exact f4 d2 he
  refine Kd.N_append_rows_step (a := { tmps := T, defers := a.defers }) k30 (w0 := w) w.heap.size (yac_ _ rfl) (.tmp 107) (.tmp 109) 28 30 (.agg #[(.int .i64 0), (.slice none 0 0)]) 32 rfl Try.underlying28 info30 rfl (by decide) (by omega) (v 2) x [z] (some ⟨g4, 0, none⟩) 1 1 (fun _ => True) (fun k => k < w.heap.size ∨ k = g4) e2 e4 hN (F_one hb hlz hCz f3) hokp (fun _ _ => trivial) hb hb.size (by omega) ?_
  intro v1 w1 hN1 hb1 hg1 hat
  refine hK _ _ trivial hb1 trivial ?_
  have n6 : d 6 = false := by cases h6 : d 6 with | false => rfl | true => rw [hj.d6 h6] at hd0; cases hd0
  constructor
  all_goals simp only [upd_same, yab_ _ _ (show (0 : Nat) ≠ 5 by decide), yab_ _ _ (show (2 : Nat) ≠ 5 by decide), yab_ _ _ (show (4 : Nat) ≠ 5 by decide), yab_ _ _ (show (6 : Nat) ≠ 5 by decide)]
  ·exact fun _ h2 => by rw [d2] at h2; cases h2
  ·exact fun _ h5 => by cases h5
  ·exact fun _ h5 => by cases h5
  ·exact fun _ => hN1
  ·exact fun h6 => by rw [n6] at h6; cases h6
  ·exact hj.d2
  ·exact fun _ => ⟨d2, d4⟩
  ·exact fun h6 => by rw [n6] at h6; cases h6
 refine DetJ.cons (o := { dst := some 18, op := Op.assign (Operand.tmp 110), type := 28, pos := "law.go:178", after := #[{ on := 5, ground := Ground.data }, { on := 5, ground := Ground.chain }, { on := 0, ground := Ground.phase }, { on := 1, ground := Ground.phase }, { on := 2, ground := Ground.phase }, { on := 3, ground := Ground.phase }, { on := 4, ground := Ground.phase }, { on := 5, ground := Ground.phase }], guard := none }) (fun _ _ => True) rfl (by decide) (fun _ _ _ _ _ => trivial) (fun v d T w' hb hj hd0 hd hdd hB K hK => ?s6) ?r6
 case s6 =>
  obtain ⟨d5, e5⟩ := hdd 5 (by kernel_rfl)
  replace e5 : T.getD 110 undef = v 5 := e5 110 rfl
  rw [if_pos (yac_ _ rfl)]
  have hJ6 : MoreJ w x z Z cz (upd v 6 (v 5)) (upd d 6 true) w' := by
   constructor
   all_goals simp only [upd_same, yab_ _ _ (show (0 : Nat) ≠ 6 by decide), yab_ _ _ (show (2 : Nat) ≠ 6 by decide), yab_ _ _ (show (4 : Nat) ≠ 6 by decide), yab_ _ _ (show (5 : Nat) ≠ 6 by decide)]
   ·exact hj.j0
   ·exact hj.j2
   ·exact hj.j4
   ·exact hj.j5
   ·exact fun _ => trivial
   ·exact hj.d2
   ·exact hj.d5
   ·exact fun _ => d5
  have hK6 := hK _ _ trivial hb trivial hJ6
  clear hd hB hdd hJ6 hK
  go_simp
  exact hK6
 refine DetJ.done [some 105, some 106, some 107, some 108, some 109, some 110, some 18] (by kernel_rfl) rfl rfl ?_
 intro v d w' hb hv hall hJ
 exact h v w' hb (by rw [hJ.j6 (hall 6 (by decide))]; exact hJ.j5 (hall 5 (by decide)))
end
section
def rotL (a : List S30) (n : Nat) : List S30 := (List.range a.length).map fun i => a.getD ((i + n) % a.length) z30
theorem rotL_len (a : List S30) (n : Nat) : (rotL a n).length = a.length := by simp [rotL]
theorem rotL_at (a : List S30) (n k : Nat) (hk : k < a.length) (t : S30) (ht : a[(k + n) % a.length]? = some t) : (rotL a n)[k]? = some t := by
 unfold rotL
 rw [List.getElem?_map, List.getElem?_range hk, Option.map_some, List.getD_eq_getElem?_getD, ht]
 rfl
theorem rotL_mem {a : List S30} {n : Nat} {x : S30} (h : x ∈ rotL a n) : x ∈ a := by
 unfold rotL at h
 rw [List.mem_map] at h
 obtain ⟨i, hi, rfl⟩ := h
 rw [List.mem_range] at hi
 have hm : (i + n) % a.length < a.length := Nat.mod_lt _ (by omega)
 rw [List.getD_eq_getElem?_getD, List.getElem?_eq_getElem hm]
 exact List.getElem_mem hm
theorem rotL_eq (a : List S30) (n : Nat) (h0 : 0 < a.length) : rotL a n = a.drop (n % a.length) ++ a.take (n % a.length) := by
 have hr : n % a.length < a.length := Nat.mod_lt _ h0
 have hd := Nat.div_add_mod n a.length
 refine List.ext_getElem? fun i => ?_
 have hlen : (a.drop (n % a.length) ++ a.take (n % a.length)).length = a.length := by simp; omega
 rcases Nat.lt_or_ge i a.length with h | h
 ·have hm : (i + n) % a.length < a.length := Nat.mod_lt _ h0
  rw [rotL_at a n i h _ (List.getElem?_eq_getElem hm), ← List.getElem?_eq_getElem hm]
  have e0 : (i + n) % a.length = (i + n % a.length) % a.length := by rw [Nat.add_mod_mod]
  rcases Nat.lt_or_ge i (a.length - n % a.length) with h1 | h1
  ·rw [List.getElem?_append_left (by simp; omega), List.getElem?_drop, e0, Nat.mod_eq_of_lt (by omega), Nat.add_comm]
  ·rw [List.getElem?_append_right (by simp; omega), List.getElem?_take_of_lt (by simp; omega), e0, Nat.mod_eq_sub_mod (by omega), Nat.mod_eq_of_lt (by omega), List.length_drop]
   congr 1
   omega
 ·rw [List.getElem?_eq_none (by rw [rotL_len]; exact h), List.getElem?_eq_none (by rw [hlen]; exact h)]
theorem cnt_rot (a : List S30) (n : Nat) (x : S30) : cnt (rotL a n) x = cnt a x := by
 rcases Nat.eq_zero_or_pos a.length with h0 | h0
 ·have : a = [] := List.eq_nil_of_length_eq_zero h0
  subst this
  simp [rotL]
 ·rw [rotL_eq a n h0, cnt_append, Nat.add_comm, ← cnt_append, List.take_append_drop]
set_option maxHeartbeats 8000000 in
set_option maxRecDepth 100000 in
theorem OrderMulti_walk (a b : List S24) (t : S24) (n : Nat) (A B C : Option Addr) (ca cb cc : Nat) (w : World) (hn : n < 256) (hA : k24.C w A a.length a) (hca : a.length ≤ ca) (hB : k24.C w B b.length b) (hcb : b.length ≤ cb) (hC : k24.C w C t.f1.length t.f1) (hcc : t.f1.length ≤ cc) (hWa : ∀ x ∈ a, Wd x) :
  Calls Try.prog 16 #[.slice A a.length ca, .slice B b.length cb, .agg #[.int .i64 t.f0, .slice C t.f1.length cc], .int .u8 n] w fun e w' => e = .returned (.bool true) ∧ Below w.heap.size w w' := by
 have hmx : Try.prog.follows .mixedOrders = true := by kernel_rfl
 obtain ⟨rc, hrc, hr1, hr2, hr3⟩ := Small_spec 9 t 10 8 (by decide) (by decide) (by decide) (by decide)
 obtain ⟨kc, ec⟩ := hrc.rounds
 obtain ⟨kz, hal⟩ := alive14.rounds
 have FC := Az_.mk ec
 have HWa := Az_.mk hWa
 have hbA : Az_ (∀ w1, Below w.heap.size w w1 → k24.C w1 A a.length a) := ⟨fun w1 h => Kd.C_below hA h⟩
 have hbB : Az_ (∀ w1, Below w.heap.size w w1 → k24.C w1 B b.length b) := ⟨fun w1 h => Kd.C_below hB h⟩
 have hbC : Az_ (∀ w1, Below w.heap.size w w1 → k24.C w1 C t.f1.length t.f1) := ⟨fun w1 h => Kd.C_below hC h⟩
 clear hA hB hC hrc ec hWa
 go_enter Try.func16, Try.ntmps16
 by_cases ha : 5 < a.length
 ·have d0 : decide (5 < (a.length : Int)) = true := decide_eq_true (by omega)
  clear ha hr1 hr2 hr3
  go_wp2_with (first | (go_at_call 54; refine (soriteslaw14_alive.calls kz true _ hal).mono ?_; rintro e w1 ⟨rfl, hb⟩; have HB1 := Az_.mk (HB0.out.trans (hb.mono HB0.out.size)); have BK1 := Az_.mk (kB_ BK0.out hb); obtain ⟨c0, c1, _, _⟩ := cz2_ BK1; clear hb) | ((with_reducible refine gate_dst (N := 6) rfl ?_); refine box_event ?hg (N := 6) ?hd (cs := #[.int .i64 t.f0, .slice C t.f1.length cc]) (t := 24) ?hr ?_; (case hd => rfl); (case hg => rfl); (case hr => first | (go_simp; done) | (go_simp; rfl)); intro gz hgz w0 hbox hb0; have BK0 := Az_.mk hbox; have HB0 := Az_.mk hb0; clear hb0 hbox hgz))
  go_ret
  exact ⟨rfl, HB1.out⟩
 have d0 : decide (5 < (a.length : Int)) = false := decide_eq_false (by omega)
 by_cases hbl : 5 < b.length
 ·have d1 : decide (5 < (b.length : Int)) = true := decide_eq_true (by omega)
  clear ha hbl hr1 hr2 hr3
  go_wp2_with (first | (go_at_call 54; refine (soriteslaw14_alive.calls kz true _ hal).mono ?_; rintro e w1 ⟨rfl, hb⟩; have HB1 := Az_.mk (HB0.out.trans (hb.mono HB0.out.size)); have BK1 := Az_.mk (kB_ BK0.out hb); obtain ⟨c0, c1, _, _⟩ := cz2_ BK1; clear hb) | ((with_reducible refine gate_dst (N := 6) rfl ?_); refine box_event ?hg (N := 6) ?hd (cs := #[.int .i64 t.f0, .slice C t.f1.length cc]) (t := 24) ?hr ?_; (case hd => rfl); (case hg => rfl); (case hr => first | (go_simp; done) | (go_simp; rfl)); intro gz hgz w0 hbox hb0; have BK0 := Az_.mk hbox; have HB0 := Az_.mk hb0; clear hb0 hbox hgz))
  go_ret
  exact ⟨rfl, HB1.out⟩
 have d1 : decide (5 < (b.length : Int)) = false := decide_eq_false (by omega)
 by_cases hneg : rc < 0
 ·have d2 : decide (rc < 0) = true := decide_eq_true hneg
  clear ha hbl hneg hr1 hr2 hr3
  go_wp2_with (first | (go_at_call 50; refine (soriteslaw06_Small.calls kc _ _ _ _ 10 8 rc w1 (hbC.out _ HB1.out) hcc FC.out).mono ?_; rintro e w2 ⟨rfl, hb⟩; have HB2 := Az_.mk (HB1.out.trans (hb.mono HB1.out.size)); have BK2 := Az_.mk (kB_ BK1.out hb); clear hb) | (go_at_call 54; refine (soriteslaw14_alive.calls kz true _ hal).mono ?_; rintro e w1 ⟨rfl, hb⟩; have HB1 := Az_.mk (HB0.out.trans (hb.mono HB0.out.size)); have BK1 := Az_.mk (kB_ BK0.out hb); obtain ⟨c0, c1, _, _⟩ := cz2_ BK1; clear hb) | ((with_reducible refine gate_dst (N := 6) rfl ?_); refine box_event ?hg (N := 6) ?hd (cs := #[.int .i64 t.f0, .slice C t.f1.length cc]) (t := 24) ?hr ?_; (case hd => rfl); (case hg => rfl); (case hr => first | (go_simp; done) | (go_simp; rfl)); intro gz hgz w0 hbox hb0; have BK0 := Az_.mk hbox; have HB0 := Az_.mk hb0; clear hb0 hbox hgz))
  go_ret
  exact ⟨rfl, HB2.out⟩
 have d2 : decide (rc < 0) = false := decide_eq_false hneg
 have HOKC := Az_.mk (And.intro (hr3 (by omega)).1 (show wt t ≤ 10 by have := (hr3 (by omega)).2; omega))
 have HAL := Az_.mk (And.intro ha hbl)
 clear ha hbl hneg hr1 hr2 hr3
 go_wp2_with (first | (go_at_call 50; refine (soriteslaw06_Small.calls kc _ _ _ _ 10 8 rc w1 (hbC.out _ HB1.out) hcc FC.out).mono ?_; rintro e w2 ⟨rfl, hb⟩; have HB2 := Az_.mk (HB1.out.trans (hb.mono HB1.out.size)); have BK2 := Az_.mk (kB_ BK1.out hb); clear hb) | (go_at_call 54; refine (soriteslaw14_alive.calls kz true _ hal).mono ?_; rintro e w1 ⟨rfl, hb⟩; have HB1 := Az_.mk (HB0.out.trans (hb.mono HB0.out.size)); have BK1 := Az_.mk (kB_ BK0.out hb); obtain ⟨c0, c1, _, _⟩ := cz2_ BK1; clear hb) | ((with_reducible refine gate_dst (N := 6) rfl ?_); refine box_event ?hg (N := 6) ?hd (cs := #[.int .i64 t.f0, .slice C t.f1.length cc]) (t := 24) ?hr ?_; (case hd => rfl); (case hg => rfl); (case hr => first | (go_simp; done) | (go_simp; rfl)); intro gz hgz w0 hbox hb0; have BK0 := Az_.mk hbox; have HB0 := Az_.mk hb0; clear hb0 hbox hgz))
 clear d0 d1 d2 c0 c1
 obtain ⟨R, hR⟩ : ∃ R, R = rotL a n := ⟨_, rfl⟩
 have HR := Az_.mk hR
 clear hR
 go_loopw [9, 11] (fun v i wra => ∃ (u : Value) (k : Nat), u = v ∧ k ≤ a.length ∧ i = .int .i64 k ∧ Az_ (∀ x, x ∈ a.take k → ok x ∧ wt x ≤ 10) ∧ Az_ (Own30 w2 wra v (R.take k))) (fun v i wra => a.length - (intOf i).toNat)
 case atStart => exact ⟨_, 0, rfl, Nat.zero_le _, rfl, ⟨fun x hx => by simp at hx⟩, ⟨by rw [List.take_zero]; exact Own30.nil _⟩⟩
 rename World => wra
 obtain ⟨u, k, hu, hk, rfl, hs, ho⟩ := hrel
 subst hu
 have hbw := Az_.mk (show Below w.heap.size w wra from HB2.out.trans (ho.out.2.mono HB2.out.size))
 by_cases hlt : k < a.length
 ·obtain ⟨t, ht0⟩ : ∃ t, a[k]? = some t := ⟨_, List.getElem?_eq_getElem hlt⟩
  have ht := Az_.mk ht0
  obtain ⟨r, hr, hr1, hr2, hr3⟩ := Small_spec 9 t 10 8 (by decide) (by decide) (by decide) (by decide)
  obtain ⟨k2, e2⟩ := hr.rounds
  obtain ⟨ad, Bk, ek, hAe, x0, x1, hle, hCk⟩ := term_at (hbA.out _ hbw.out) k t ht0
  subst hAe
  have hcl := Az_.mk (soriteslaw06_Small.calls k2 _ _ _ _ 10 8 r wra hCk hle e2)
  clear hCk hle e2 hr ht0
  by_cases hneg : r < 0
  ·have dn : decide (r < 0) = true := decide_eq_true hneg
   clear hneg hr1 hr2 hr3
   go_wp2_with (go_at_call 50; refine hcl.out.mono ?_; rintro e w3 ⟨rfl, hb⟩; have hB3 := Az_.mk (hbw.out.trans (hb.mono hbw.out.size)); clear hb)
   go_ret
   exact ⟨rfl, hB3.out⟩
  ·have dn : decide (r < 0) = false := decide_eq_false hneg
   have hok := hr3 (by omega)
   have HOKt := Az_.mk (And.intro hok.1 (show wt t ≤ 10 by omega))
   clear hneg hr1 hr2 hr3 hok
   have hml : (k + n) % a.length < a.length := Nat.mod_lt _ (by omega)
   obtain ⟨t2, ht2⟩ : ∃ t2, a[(k + n) % a.length]? = some t2 := ⟨_, List.getElem?_eq_getElem hml⟩
   have HT2 := Az_.mk ht2
   have HR2 := Az_.mk (show R[k]? = some t2 from by rw [HR.out]; exact rotL_at a n k hlt t2 ht2)
   obtain ⟨k3, e3⟩ := (Of_wide t2 (HWa.out t2 (List.mem_of_getElem? ht2))).rounds
   have HOK := Az_.mk (And.intro e3 trivial)
   have h6 := HAL.out.1
   have hsum : wrap64 ((k : Int) + (n : Int)) = ((k + n : Nat) : Int) := by unfold wrap64; omega
   have hne : ((a.length : Nat) : Int) ≠ 0 := by omega
   have hmi0 : (0 : Int) ≤ ((k : Int) + (n : Int)) % ((a.length : Nat) : Int) := Int.emod_nonneg _ hne
   have hmi1 : ((k : Int) + (n : Int)) % ((a.length : Nat) : Int) < ((a.length : Nat) : Int) := Int.emod_lt_of_pos _ (by omega)
   have hmi2 : (((k : Int) + (n : Int)) % ((a.length : Nat) : Int)).toNat = (k + n) % a.length := by rw [← Int.natCast_add, ← Int.natCast_emod, Int.toNat_natCast]
   clear e3 ht2 h6
   go_wp2_with (first | ((with_reducible refine gate_builtin (b := .append) (xs := #[.tmp 46, .tmp 58]) rfl ?_); at_builtin; refine Kd.N_append k30 (w0 := w2) w2.heap.size rfl (.tmp 46) (.tmp 58) 28 30 (.agg #[(.int .i64 0), (.slice none 0 0)]) 32 rfl Try.underlying28 info30 rfl (by decide) (by omega) u (R.take k) t2 [.int .i64 t2.f0, .slice Ao t2.f1.length co] (fun k_ => w2.heap.size ≤ k_) (fun k_ => w2.heap.size ≤ k_ ∧ some k_ ≠ u.ownBlock) rfl rfl hEL.out (fun _ hk => hk) (fun _ hk => Nat.le_trans HO4.out.2.size hk) HO4.out.1 HO4.out.2 HO4.out.2.size (by have := List.length_take_le k R; have := HAL.out.1; omega) ?_; intro v5 w5 ho5 hb5 _ _; have HO5 := Az_.mk (And.intro ho5 hb5); clear ho5 hb5) | (go_at_call 22; refine (soriteslaw06_Of.calls k3 _ _ _ t2.f1 t2.f0 t2.f1 _ HC'.out.2 HC'.out.1 HOK.out.1).mono ?_; rintro e w4 ⟨v1, rfl, hR, hb⟩; obtain ⟨Ao, co, rfl, _⟩ := Kd.R_V (base' := 0) hR; have hEL := Az_.mk (HO3.out.elem hR).2.2; have HO4 := Az_.mk (HO3.out.below hb); clear hR hb) | (go_at_call 50; refine hcl.out.mono ?_; rintro e w3 ⟨rfl, hb⟩; have hB3 := Az_.mk (hbw.out.trans (hb.mono hbw.out.size)); have HO3 := Az_.mk (ho.out.below hb); clear hb; obtain ⟨ad', B', e', hAe', y0, y1, hle', hC'⟩ := term_at (hbA.out w3 hB3.out) ((k + n) % a.length) t2 HT2.out; injection hAe' with hAe'; subst hAe'; have HC' := Az_.mk (And.intro hle' hC'); clear hle' hC'))
   go_roundw
   case rel =>
    have h6 := HAL.out.1
    refine ⟨_, k + 1, rfl, by omega, by rw [wrap_nat k (by omega)], ⟨fun x hx => ?_⟩, ⟨?_⟩⟩
    ·rw [List.take_add_one, ht.out] at hx
     rcases List.mem_append.1 hx with h | h
     ·exact hs.out x h
     ·simp at h; rw [h]; exact HOKt.out
    ·rw [List.take_add_one, HR2.out]
     exact HO5.out
   case measure =>
    have h6 := HAL.out.1
    rw [wrap_nat k (by omega)]
    simp [intOf]; omega
 have hke : k = a.length := by omega
 subst hke
 have hs' := hs.out
 rw [List.take_length] at hs'
 have HSa := Az_.mk hs'
 have ho' := ho.out
 rw [show R.take a.length = R from List.take_of_length_le (by rw [HR.out, rotL_len]; exact Nat.le_refl _)] at ho'
 obtain ⟨Xa, cxa, hu, hcxa, hX⟩ := ho'.reads
 subst hu
 have HXa := Az_.mk hX
 have HBa := hbw
 have HOa := Az_.mk ho.out.2
 clear hlt hk ho ho' hX hbw hs hs'
 go_wp2
 go_loopw [10, 12] (fun v i wrb => ∃ (u : Value) (k : Nat), u = v ∧ k ≤ b.length ∧ i = .int .i64 k ∧ Az_ (∀ x, x ∈ b.take k → ok x ∧ wt x ≤ 10) ∧ Az_ (Own30 wra wrb v (b.take k))) (fun v i wrb => b.length - (intOf i).toNat)
 case atStart => exact ⟨_, 0, rfl, Nat.zero_le _, rfl, ⟨fun x hx => by simp at hx⟩, ⟨by rw [List.take_zero]; exact Own30.nil _⟩⟩
 rename World => wrb
 obtain ⟨u, k, hu, hk, rfl, hs, ho⟩ := hrel
 subst hu
 have hbw := Az_.mk (show Below w.heap.size w wrb from HBa.out.trans (ho.out.2.mono HBa.out.size))
 by_cases hlt : k < b.length
 ·obtain ⟨t, ht0⟩ : ∃ t, b[k]? = some t := ⟨_, List.getElem?_eq_getElem hlt⟩
  have ht := Az_.mk ht0
  obtain ⟨r, hr, hr1, hr2, hr3⟩ := Small_spec 9 t 10 8 (by decide) (by decide) (by decide) (by decide)
  obtain ⟨k2, e2⟩ := hr.rounds
  obtain ⟨ad, Bk, ek, hAe, x0, x1, hle, hCk⟩ := term_at (hbB.out _ hbw.out) k t ht0
  subst hAe
  have hcl := Az_.mk (soriteslaw06_Small.calls k2 _ _ _ _ 10 8 r wrb hCk hle e2)
  clear hCk hle e2 hr ht0
  by_cases hneg : r < 0
  ·have dn : decide (r < 0) = true := decide_eq_true hneg
   clear hneg hr1 hr2 hr3
   go_wp2_with (go_at_call 50; refine hcl.out.mono ?_; rintro e w3 ⟨rfl, hb⟩; have hB3 := Az_.mk (hbw.out.trans (hb.mono hbw.out.size)); clear hb)
   go_ret
   exact ⟨rfl, hB3.out⟩
  ·have dn : decide (r < 0) = false := decide_eq_false hneg
   have hok := hr3 (by omega)
   have HOKt := Az_.mk (And.intro hok.1 (show wt t ≤ 10 by omega))
   clear hneg hr1 hr2 hr3 hok
   obtain ⟨t2, ht2⟩ : ∃ t2, t2 = t := ⟨_, rfl⟩
   have HT2 := Az_.mk (show b[k]? = some t2 from by rw [ht2]; exact ht.out)
   have HR2 := Az_.mk (show b[k]? = some t2 from by rw [ht2]; exact ht.out)
   obtain ⟨k3, e3⟩ := (Of_spec t2 (by rw [ht2]; exact HOKt.out.1)).rounds
   have HOK := Az_.mk (And.intro e3 trivial)
   clear e3
   subst ht2
   go_wp2_with (first | ((with_reducible refine gate_builtin (b := .append) (xs := #[.tmp 72, .tmp 78]) rfl ?_); at_builtin; refine Kd.N_append k30 (w0 := wra) wra.heap.size rfl (.tmp 72) (.tmp 78) 28 30 (.agg #[(.int .i64 0), (.slice none 0 0)]) 32 rfl Try.underlying28 info30 rfl (by decide) (by omega) u (b.take k) t2 [.int .i64 t2.f0, .slice Ao t2.f1.length co] (fun k_ => wra.heap.size ≤ k_) (fun k_ => wra.heap.size ≤ k_ ∧ some k_ ≠ u.ownBlock) rfl rfl hEL.out (fun _ hk => hk) (fun _ hk => Nat.le_trans HO4.out.2.size hk) HO4.out.1 HO4.out.2 HO4.out.2.size (by have := List.length_take_le k b; have := HAL.out.2; omega) ?_; intro v5 w5 ho5 hb5 _ _; have HO5 := Az_.mk (And.intro ho5 hb5); clear ho5 hb5) | (go_at_call 22; refine (soriteslaw06_Of.calls k3 _ _ _ t2.f1 t2.f0 t2.f1 _ HC'.out.2 HC'.out.1 HOK.out.1).mono ?_; rintro e w4 ⟨v1, rfl, hR, hb⟩; obtain ⟨Ao, co, rfl, _⟩ := Kd.R_V (base' := 0) hR; have hEL := Az_.mk (HO3.out.elem hR).2.2; have HO4 := Az_.mk (HO3.out.below hb); clear hR hb) | (go_at_call 50; refine hcl.out.mono ?_; rintro e w3 ⟨rfl, hb⟩; have hB3 := Az_.mk (hbw.out.trans (hb.mono hbw.out.size)); have HO3 := Az_.mk (ho.out.below hb); clear hb; obtain ⟨ad', B', e', hAe', y0, y1, hle', hC'⟩ := term_at (hbB.out w3 hB3.out) (k) t2 HT2.out; injection hAe' with hAe'; subst hAe'; have HC' := Az_.mk (And.intro hle' hC'); clear hle' hC'))
   go_roundw
   case rel =>
    have h6 := HAL.out.2
    refine ⟨_, k + 1, rfl, by omega, by rw [wrap_nat k (by omega)], ⟨fun x hx => ?_⟩, ⟨?_⟩⟩
    ·rw [List.take_add_one, ht.out] at hx
     rcases List.mem_append.1 hx with h | h
     ·exact hs.out x h
     ·simp at h; rw [h]; exact HOKt.out
    ·rw [List.take_add_one, HR2.out]
     exact HO5.out
   case measure =>
    have h6 := HAL.out.2
    rw [wrap_nat k (by omega)]
    simp [intOf]; omega
 have hke : k = b.length := by omega
 subst hke
 have hs' := hs.out
 rw [List.take_length] at hs'
 have HSb := Az_.mk hs'
 have ho' := ho.out
 rw [List.take_length] at ho'
 obtain ⟨Xb, cxb, hu, hcxb, hX⟩ := ho'.reads
 subst hu
 have HXb := Az_.mk hX
 have HBb := hbw
 have HOb := Az_.mk ho.out.2
 clear hlt hk ho ho' hX hbw hs hs'
 go_wp2
 go_loopw [13, 14] (fun v i wrp => ∃ (u : Value) (k : Nat), u = v ∧ k ≤ a.length ∧ i = .int .i64 k ∧ Az_ (Own30 wrb wrp v (a.take k))) (fun v i wrp => a.length - (intOf i).toNat)
 case atStart => exact ⟨_, 0, rfl, Nat.zero_le _, rfl, ⟨by rw [List.take_zero]; exact Own30.nil _⟩⟩
 rename World => wrp
 obtain ⟨u, k, hu, hk, rfl, ho⟩ := hrel
 subst hu
 have hbw := Az_.mk (show Below w.heap.size w wrp from HBb.out.trans (ho.out.2.mono HBb.out.size))
 by_cases hlt : k < a.length
 ·obtain ⟨t2, ht0⟩ : ∃ t, a[k]? = some t := ⟨_, List.getElem?_eq_getElem hlt⟩
  have HR2 := Az_.mk ht0
  obtain ⟨ad, Bk, ek, hAe, x0, x1, hle, hCk⟩ := term_at (hbA.out _ hbw.out) k t2 ht0
  subst hAe
  obtain ⟨k3, e3⟩ := (Of_spec t2 (HSa.out t2 (List.mem_of_getElem? ht0)).1).rounds
  have HOK := Az_.mk (And.intro e3 trivial)
  have HC' := Az_.mk (And.intro hle hCk)
  have HO3 := ho
  clear hCk hle e3 ht0
  ·go_wp2_with (first | ((with_reducible refine gate_builtin (b := .append) (xs := #[.tmp 86, .tmp 92]) rfl ?_); at_builtin; refine Kd.N_append k30 (w0 := wrb) wrb.heap.size rfl (.tmp 86) (.tmp 92) 28 30 (.agg #[(.int .i64 0), (.slice none 0 0)]) 32 rfl Try.underlying28 info30 rfl (by decide) (by omega) u (a.take k) t2 [.int .i64 t2.f0, .slice Ao t2.f1.length co] (fun k_ => wrb.heap.size ≤ k_) (fun k_ => wrb.heap.size ≤ k_ ∧ some k_ ≠ u.ownBlock) rfl rfl hEL.out (fun _ hk => hk) (fun _ hk => Nat.le_trans HO4.out.2.size hk) HO4.out.1 HO4.out.2 HO4.out.2.size (by have := List.length_take_le k a; have := HAL.out.1; omega) ?_; intro v5 w5 ho5 hb5 _ _; have HO5 := Az_.mk (And.intro ho5 hb5); clear ho5 hb5) | (go_at_call 22; refine (soriteslaw06_Of.calls k3 _ _ _ t2.f1 t2.f0 t2.f1 _ HC'.out.2 HC'.out.1 HOK.out.1).mono ?_; rintro e w4 ⟨v1, rfl, hR, hb⟩; obtain ⟨Ao, co, rfl, _⟩ := Kd.R_V (base' := 0) hR; have hEL := Az_.mk (HO3.out.elem hR).2.2; have HO4 := Az_.mk (HO3.out.below hb); clear hR hb))
   go_roundw
   case rel =>
    have h6 := HAL.out.1
    refine ⟨_, k + 1, rfl, by omega, by rw [wrap_nat k (by omega)], ⟨?_⟩⟩
    ·rw [List.take_add_one, HR2.out]
     exact HO5.out
   case measure =>
    have h6 := HAL.out.1
    rw [wrap_nat k (by omega)]
    simp [intOf]; omega
 have hke : k = a.length := by omega
 subst hke
 have ho' := ho.out
 rw [List.take_length] at ho'
 obtain ⟨Xp, cxp, hu, hcxp, hX⟩ := ho'.reads
 subst hu
 have HXp := Az_.mk hX
 have HBp := hbw
 have HOp := Az_.mk ho.out.2
 clear hlt hk ho ho' hX hbw
 have BKp := Az_.mk (kB_ (kB_ (kB_ BK2.out HOa.out) HOb.out) HOp.out)
 obtain ⟨c0, c1, _, _⟩ := cz2_ BKp
 obtain ⟨kd, ed⟩ := (Of_spec t HOKC.out.1).rounds
 have FO := Az_.mk ed
 have KXa : Az_ (∀ W, Below wrp.heap.size wrp W → k30.C W Xa R.length R) := ⟨fun W h => Kd.C_below (Kd.C_below (Kd.C_below HXa.out HOb.out) HOp.out) h⟩
 have KXb : Az_ (∀ W, Below wrp.heap.size wrp W → k30.C W Xb b.length b) := ⟨fun W h => Kd.C_below (Kd.C_below HXb.out HOp.out) h⟩
 have KXp : Az_ (∀ W, Below wrp.heap.size wrp W → k30.C W Xp a.length a) := ⟨fun W h => Kd.C_below HXp.out h⟩
 obtain ⟨gg, hgg⟩ : ∃ gg, gg = multiT R b := ⟨_, rfl⟩
 have h6 := HAL.out
 have hRl : R.length = a.length := by rw [HR.out, rotL_len]
 have hfa : ∀ x ∈ a, fit x := fun x hx => fit_of_ok x (HSa.out x hx).1 (by have := nodes_le x; have := (HSa.out x hx).2; omega)
 have hfb : ∀ x ∈ b, fit x := fun x hx => fit_of_ok x (HSb.out x hx).1 (by have := nodes_le x; have := (HSb.out x hx).2; omega)
 have hft : fit t := fit_of_ok t HOKC.out.1 (by have := nodes_le t; have := HOKC.out.2; omega)
 have hfR : ∀ x ∈ R, fit x := fun x hx => by
  rw [HR.out] at hx
  exact hfa x (rotL_mem hx)
 have hfm : ∀ x ∈ R ++ [t], fit x := fun x hx => by
  rcases List.mem_append.1 hx with h | h
  ·exact hfR x h
  ·rw [List.mem_singleton.1 h]; exact hft
 have hfn : ∀ x ∈ b ++ [t], fit x := fun x hx => by
  rcases List.mem_append.1 hx with h | h
  ·exact hfb x h
  ·rw [List.mem_singleton.1 h]; exact hft
 have nm : (R ++ [t]).length ≤ 1000000 := by simp; omega
 have nn : (b ++ [t]).length ≤ 1000000 := by simp; omega
 have M1 := Az_.mk (show order_Multi.f R b = some gg from by rw [hgg]; exact Multi_of hfR hfb (by omega) (by omega))
 have M2 := Az_.mk (show order_Multi.f a b = some gg from by rw [hgg, HR.out, multi_congr (cnt_rot a n) (fun _ => rfl)]; exact Multi_of hfa hfb (by omega) (by omega))
 have M3 := Az_.mk (show order_Multi.f (R ++ [t]) (b ++ [t]) = some gg from by rw [hgg, ← multi_shared R b [t]]; exact Multi_of hfm hfn nm nn)
 have M4 := Az_.mk (show order_Multi.f (R ++ [t]) R = some true from by rw [← multi_more R t]; exact Multi_of hfm hfR nm (by omega))
 have M5 := Az_.mk (show order_Multi.f R (R ++ [t]) = some false from by rw [← multi_less R t]; exact Multi_of hfR hfm (by omega) nm)
 have M6 := Az_.mk (show order_Multi.f R R = some false from by rw [← multi_irrefl R]; exact Multi_of hfR hfR (by omega) (by omega))
 have HRl := Az_.mk (And.intro (show R.length ≤ 1000 by omega) (show b.length ≤ 1000 by omega))
 obtain ⟨RM, hRM⟩ : ∃ RM, RM = R ++ [t] := ⟨_, rfl⟩
 obtain ⟨BM, hBM⟩ : ∃ BM, BM = b ++ [t] := ⟨_, rfl⟩
 rw [← hRM] at M3 M4 M5
 rw [← hBM] at M3
 have HRM := Az_.mk hRM
 have HBM := Az_.mk hBM
 clear hRM hBM
 clear ed BK0 BK1 BK2 hgg h6 hRl hfa hfb hft hfR hfm hfn nm nn
 go_upto_region 24 with (first | ((with_reducible refine gate_dst (N := 15) rfl ?_); refine box_event ?hg (N := 15) ?hd (cs := #[.int .i64 0, .slice none 0 0]) (t := 30) ?hr ?_; (case hd => rfl); (case hg => rfl); (case hr => first | (go_simp; done) | (go_simp; rfl)); intro gq hgq w7 hbox hb7; have BK7 := Az_.mk hbox; have HQ := Az_.mk (show w6.heap.size ≤ gq by rw [hgq]; exact Nat.le_refl _); have HB7 := Az_.mk hb7; obtain ⟨z0, z1, zf0, zf1⟩ := cz2_ BK7; clear hb7 hbox hgq) | (go_at_call 22; refine (soriteslaw06_Of.calls kd t.f0 C cc t.f1 t.f0 t.f1 _ (hbC.out _ HBp.out) hcc FO.out).mono ?_; rintro e w6 ⟨v1, rfl, hR, hb⟩; obtain ⟨Z, cz, rfl, hlz, hF⟩ := Kd.R_V (base' := 0) hR; have HZ := Az_.mk (And.intro hlz (Kd.F_now hF)); have HB6 := Az_.mk hb; clear hR hb hlz hF))
 have n0_ : Az_ (((w7.setCell ⟨gq, 0, none⟩ (.int .i64 t.f0)).setCell ⟨gq, 1, none⟩ (.slice Z t.f1.length cz)).heap[gq]? = some (.cells #[.int .i64 t.f0, .slice Z t.f1.length cz] 30 (0, 0))) := ⟨blk_put (cs := #[.int .i64 t.f0, .slice none 0 0]) (blk_put (cs := #[.int .i64 0, .slice none 0 0]) BK7.out 0 _ rfl) 1 _ rfl⟩
 have n1_ : Az_ (Below w6.heap.size w6 ((w7.setCell ⟨gq, 0, none⟩ (.int .i64 t.f0)).setCell ⟨gq, 1, none⟩ (.slice Z t.f1.length cz))) := ⟨bS_ (bS_ HB7.out HQ.out) HQ.out⟩
 clear z0 z1 zf0 zf1 c0 c1 BK7 HB7 HQ
 generalize ((w7.setCell ⟨gq, 0, none⟩ (.int .i64 t.f0)).setCell ⟨gq, 1, none⟩ (.slice Z t.f1.length cz)) = w8 at n0_ n1_ ⊢
 have HB8 := Az_.mk (HB6.out.trans (n1_.out.mono HB6.out.size))
 have HZ8 := Az_.mk (Kd.C_below HZ.out.2 n1_.out)
 clear n1_
 go_upto_region 25 with (go_at_call 62; refine (order_Multi.calls Xa cxa (R) Xb cxb (b) _ _ (KXa.out _ HB8.out) hcxa (KXb.out _ HB8.out) hcxb M1.out).mono ?_; rintro e w9 ⟨rfl, hb⟩; have HB9 := Az_.mk (HB8.out.trans (hb.mono HB8.out.size)); have HH9 := Az_.mk hb; clear hb)
 refine OrderMulti_r25 (x := R) (z := t) (by kernel_rfl) rfl rfl (kB_ n0_.out HH9.out) (KXa.out _ HB9.out) HZ.out.1 (Kd.C_below HZ8.out HH9.out) HRl.out.1 ?_
 intro v w10 hb10 hN
 rw [← HRM.out] at hN
 obtain ⟨M, mc, hv6, hmc, hF⟩ := Kd.N_V (base' := 0) hN
 simp only [layL, Nat.reduceAdd, List.setIfInBounds_toArray, List.set_cons_zero, List.set_cons_succ, hv6]
 generalize v 0 = n0
 generalize v 1 = n1
 generalize v 2 = n2
 generalize v 3 = n3
 generalize v 4 = n4
 generalize v 5 = n5
 have HB10 := Az_.mk (HB9.out.trans (hb10.mono HB9.out.size))
 have HH10 := Az_.mk (HH9.out.trans (hb10.mono HH9.out.size))
 have HM10 := Az_.mk (Kd.F_now hF)
 clear hF hN hv6 v hb10
 go_upto_region 26 with (fail)
 refine OrderMulti_r26 (x := b) (z := t) (by kernel_rfl) rfl rfl (kB_ n0_.out HH10.out) (KXb.out _ HB10.out) HZ.out.1 (Kd.C_below HZ8.out HH10.out) HRl.out.2 ?_
 intro v w11 hb11 hN
 rw [← HBM.out] at hN
 obtain ⟨N, nc, hv6, hnc, hF⟩ := Kd.N_V (base' := 0) hN
 simp only [layL, Nat.reduceAdd, List.setIfInBounds_toArray, List.set_cons_zero, List.set_cons_succ, hv6]
 generalize v 0 = n0
 generalize v 1 = n1
 generalize v 2 = n2
 generalize v 3 = n3
 generalize v 4 = n4
 generalize v 5 = n5
 have HB11 := Az_.mk (HB10.out.trans (hb11.mono HB10.out.size))
 have KM : Az_ (∀ W, Below w11.heap.size w11 W → k30.C W M RM.length RM) := ⟨fun W h => Kd.C_below (Kd.C_below HM10.out hb11) h⟩
 have KN : Az_ (∀ W, Below w11.heap.size w11 W → k30.C W N BM.length BM) := ⟨fun W h => Kd.C_below (Kd.F_now hF) h⟩
 have KXa : Az_ (∀ W, Below w11.heap.size w11 W → k30.C W Xa R.length R) := ⟨fun W h => KXa.out W (HB11.out.trans (h.mono HB11.out.size))⟩
 have KXb : Az_ (∀ W, Below w11.heap.size w11 W → k30.C W Xb b.length b) := ⟨fun W h => KXb.out W (HB11.out.trans (h.mono HB11.out.size))⟩
 have KXp : Az_ (∀ W, Below w11.heap.size w11 W → k30.C W Xp a.length a) := ⟨fun W h => KXp.out W (HB11.out.trans (h.mono HB11.out.size))⟩
 have HBw := Az_.mk (HBp.out.trans (HB11.out.mono HBp.out.size))
 clear HB11
 have HB11 := Az_.mk (Below.refl w11.heap.size w11)
 clear hF hN hv6 v hb11
 cases gg
 all_goals
  go_wp2_with (first | (go_at_call 62; refine (order_Multi.calls Xa cxa (R) Xa cxa (R) _ _ (KXa.out _ HB15.out) hcxa (KXa.out _ HB15.out) hcxa M6.out).mono ?_; rintro e w16 ⟨rfl, hb⟩; have HB16 := Az_.mk (HB15.out.trans (hb.mono HB15.out.size)); clear hb) | (go_at_call 62; refine (order_Multi.calls Xa cxa (R) M mc RM _ _ (KXa.out _ HB14.out) hcxa (KM.out _ HB14.out) hmc M5.out).mono ?_; rintro e w15 ⟨rfl, hb⟩; have HB15 := Az_.mk (HB14.out.trans (hb.mono HB14.out.size)); clear hb) | (go_at_call 62; refine (order_Multi.calls M mc RM Xa cxa (R) _ _ (KM.out _ HB13.out) hmc (KXa.out _ HB13.out) hcxa M4.out).mono ?_; rintro e w14 ⟨rfl, hb⟩; have HB14 := Az_.mk (HB13.out.trans (hb.mono HB13.out.size)); clear hb) | (go_at_call 62; refine (order_Multi.calls M mc RM N nc BM _ _ (KM.out _ HB12.out) hmc (KN.out _ HB12.out) hnc M3.out).mono ?_; rintro e w13 ⟨rfl, hb⟩; have HB13 := Az_.mk (HB12.out.trans (hb.mono HB12.out.size)); clear hb) | (go_at_call 62; refine (order_Multi.calls Xp cxp (a) Xb cxb (b) _ _ (KXp.out _ HB11.out) hcxp (KXb.out _ HB11.out) hcxb M2.out).mono ?_; rintro e w12 ⟨rfl, hb⟩; have HB12 := Az_.mk (HB11.out.trans (hb.mono HB11.out.size)); clear hb))
  go_ret
  exact ⟨rfl, HBw.out.trans (HB16.out.mono HBw.out.size)⟩
end
end Go.Proofs.Ytpfddihcikiofaa.P
section
namespace Go.Proofs.Ytpfddihcikiofaa.orderMulti
open Go.ChangeShapes Go.WideShapes Go.ChangeAt Go.RowKit
set_option linter.unusedVariables false
theorem own : ownKnob Try.prog.godebug = none := by kernel_rfl
theorem laidOut : laidOutB Try.prog = true := by kernel_rfl
set_option maxRecDepth 100000 in
theorem lifted (os : Os) (started : os.Started) (H : Type) (enc : TypeId × Value → H) :
  ReturnsInHanded {} Try.checked os 16 .any (Rows.orderMultiSpec.pre6 enc Try.prog Try.f16 Rows.orderMultiRow.domain false) (Rows.orderMultiSpec.post enc Try.prog Try.f16 false true false false) := by
 refine returnsInHanded_of_change_sized (C := Try.checked) own started (by kernel_rfl) Try.func16
  (ChangeSpec.witness6 (enc := enc) (C := Try.checked) false ⟨#[], #[.slice none 0 0, .slice none 0 0, .agg #[.int .i64 0, .slice none 0 0], .int .u8 0], []⟩ 8 (by kernel_rfl) (by kernel_rfl) (by kernel_rfl) (by kernel_rfl)) ?_
 intro W base args ds gs before hval0 hW hcnd hsz0 _
 have hval : ∀ (j : Nat) t v, Try.f16.params[j]? = some t → args[j]? = some v → Value.okWide Try.prog W .any base t v := hval0
 have hW' := hW
 obtain ⟨p, q, hA0, hV, rfl, hfz, hnd⟩ := hW
 have hA : DataW.TrodAll enc Try.prog W 0 (fun _ => true) true Try.f16.params.toList args.toList ds p := hA0
 rw [Try.params16] at hA hval
 obtain ⟨v0, vs0, d0, ds0, p0, q0, hargs, rfl, rfl, h0, r0⟩ := trodAll_cons hA
 obtain ⟨v1, vs1, d1, ds1, p1, q1, rfl, rfl, rfl, h1, r1⟩ := trodAll_cons r0
 obtain ⟨v2, vs2, d2, ds2, p2, q2, rfl, rfl, rfl, h2, r2⟩ := trodAll_cons r1
 obtain ⟨v3, vs3, d3, ds3, p3, q3, rfl, rfl, rfl, h3, r3⟩ := trodAll_cons r2
 obtain ⟨rfl, rfl, rfl⟩ := trodAll_nil r3
 obtain rfl : args = #[v0, v1, v2, v3] := by cases args; simp_all
 obtain ⟨rfl, rfl⟩ := trodVars_none hV
 have k0 := h0
 have lt0 : ∀ x ∈ p0, x.block < W.heap.size := by obtain ⟨m, hm⟩ := k0; exact DataW.trod_lt m _ _ _ hm
 have hL0 : P.Light 22 d0 := P.light_at hsz0 0 22 d0 rfl rfl
 obtain ⟨t0, A0, c0, rfl, hc0, hC0, hW0⟩ := P.wide_Ts (hval 0 22 v0 rfl rfl) h0 hL0
 have k1 := h1
 have lt1 : ∀ x ∈ p1, x.block < W.heap.size := by obtain ⟨m, hm⟩ := k1; exact DataW.trod_lt m _ _ _ hm
 obtain ⟨t1, A1, c1, rfl, hc1, hC1⟩ := P.open_Ts (hval 1 22 v1 rfl rfl) h1
 have k2 := h2
 have lt2 : ∀ x ∈ p2, x.block < W.heap.size := by obtain ⟨m, hm⟩ := k2; exact DataW.trod_lt m _ _ _ hm
 obtain ⟨t2, A2, c2, rfl, hc2, hC2, hw2⟩ := P.open_T (hval 2 24 v2 rfl rfl) h2
 obtain ⟨a3, rfl, rfl, rfl, w3⟩ := open_int Try.underlying5 (hval 3 5 v3 rfl rfl) h3
 obtain ⟨n, rfl, hn⟩ : ∃ n : Nat, a3 = (n : Int) ∧ n < 256 := ⟨a3.toNat, by have := w3; simp [Lit.wf, IntKind.min, IntKind.max, IntKind.signed, IntKind.bits] at this; omega, by have := w3; simp [Lit.wf, IntKind.min, IntKind.max, IntKind.signed, IntKind.bits] at this; omega⟩
 clear hA0 hval0 hsz0
 refine (P.OrderMulti_walk t0 t1 t2 n A0 A1 A2 c0 c1 c2 W hn hC0 hc0 hC1 hc1 hC2 hc2 hW0).mono fun e W' ⟨he, bel⟩ => ?_
 subst he
 exact ⟨_, rfl, _, _, _, [], _, [], hW', trodAll_mk1 (shut_bool Try.underlying4 _), (trodAll_cons_mk (Below.trod laidOut (by kernel_rfl) (of_decide_eq_true (by kernel_rfl)) k0 bel lt0) (trodAll_cons_mk (Below.trod laidOut (by kernel_rfl) (of_decide_eq_true (by kernel_rfl)) k1 bel lt1) (trodAll_cons_mk (Below.trod laidOut (by kernel_rfl) (of_decide_eq_true (by kernel_rfl)) k2 bel lt2) (trodAll_cons_mk (shut_int Try.underlying5 w3) trodAll_mk0)))), rfl, bel.frame _, fun h => by cases h⟩
theorem over : Rows.orderMultiRow.holds Try.pinned (OpenSpec.ofChange Rows.orderMultiSpec) :=
 OpenClaim.holds_of_wide 16 Try.f16 rfl rfl rfl rfl rfl rfl rfl ⟨rfl, rfl, rfl, rfl, rfl⟩ rfl rfl rfl rfl rfl (by kernel_rfl) Try.func16 (by kernel_rfl)
  (of_decide_eq_true (by kernel_rfl)) (by unfold Func.isWrapper; first | (rw [if_pos (by decide +kernel)]; kernel_rfl) | (rw [if_neg (by decide +kernel)]; exact ⟨rfl, rfl⟩))
  (fun os started H enc _ => lifted os started H enc)
end Go.Proofs.Ytpfddihcikiofaa.orderMulti
namespace Go.Proofs.Ytpfddihcikiofaa
theorem orderMulti_holds : Rows.OrderMultiSaid := orderMulti.over
#print axioms orderMulti_holds
end Go.Proofs.Ytpfddihcikiofaa
end
