/- The law OrderAtoms holds of every input. Part 4 of 5: GDetK, GMultiR, GMultiC, GMulti, GRet, GKboLaw, GPlaceLaw, GRulesLaw, GMultiLaw, PxSoritesref14Terms, PxSoritesref14Less, PxSoritesref14Multi, PxSoritesref14Greater, PxOrderTerms, PxOrderGreater, GSpec14, PxOrderWeight, GGreatest, PxOrderLooked, PxSoriteslaw14Alive, PxSoritesref14Greatest, PxSoritesref14Weight, PxSoritesref14Looked. -/
import Derived.Test.YtpfddihcikiofaaZOrderAtoms3
import Derived.Test.YtpfddihcikiofaaZOrderAtoms2
import Derived.Shelf.Abstract
import Derived.Test.YtpfddihcikiofaaZOrderAtoms1
namespace Go.Proofs.Ytpfddihcikiofaa.P
open Go.RowKit Go.Proofs.YtpfddihcikiofaaW.PrintWords Go.Proofs.YtpfddihcikiofaaW.PrintLast Go.Proofs.YtpfddihcikiofaaW.PrintMore
set_option linter.unusedVariables false
set_option linter.unusedSimpArgs false
section
def DetIN (N : Nat) (w0 : World) (ps : List Told) (v : Nat → Value) (d : Nat → Bool) (w : World) : Prop := Below N w0 w ∧ ∀ j, d j = true → ∀ p, ps[j]? = some p → p (v j) w
section
variable {P : Program} {ops : Array Oper} {Q : Exit → Act → World → Prop}
def DetStepK (P : Program) (ops : Array Oper) (Q : Exit → Act → World → Prop) (base : Array Value) (ds : List Deferred) (w0 : World) (N : Nat) (F : World → World → Prop) (J : BoxI) (rs : List Told) (i : Nat) (o : Oper) (p : Told) : Prop :=
 ∀ (v : Nat → Value) (d : Nat → Bool) (T : Array Value) (w : World), Below N w0 w → J v d w → d i = false →
  (∀ j t p, j < i → (o.after.any fun e => Region.binds .any e && decide (e.on = j)) = true → dstOf ops j = some t → rs[i - 1 - j]? = some p → p (T.getD t undef) w) →
  (∀ j, (o.after.any fun e => Region.binds .any e && decide (e.on = j)) = true → d j = true ∧ ∀ t, dstOf ops j = some t → T.getD t undef = v j) →
  (∀ t, ((List.range ops.size).all fun j => decide (dstOf ops j ≠ some t)) = true → T.getD t undef = base.getD t undef) →
  ∀ K : Act → World → Prop, (∀ u w2, F w w2 → Below N w0 w2 → p u w2 → J (upd v i u) (upd d i true) w2 → K ({ tmps := T, defers := ds : Act }.put o.dst u) w2) →
   if Region.wanted o (yielded ops T) = true then Oper.wp P o { tmps := T, defers := ds } w K Q else K ({ tmps := T, defers := ds : Act }.put o.dst undef) w
def DetK (P : Program) (ops : Array Oper) (Q : Exit → Act → World → Prop) (base : Array Value) (ds : List Deferred) (w0 : World) (N : Nat) (F : World → World → Prop) (J : BoxI) (m i : Nat) (rs : List Told) : Prop :=
 rs.length = i → ∃ full : List Told, full.length = m ∧ full.take i = rs.reverse ∧
  (∀ j, i ≤ j → j < m → ∀ o p, ops[j]? = some o → full[j]? = some p → p.keeps F ∧ DetStepK P ops Q base ds w0 N F J (full.take j).reverse j o p) ∧
  ∀ v w', Below N w0 w' → (∀ (j : Nat) (p : Told), full[j]? = some p → p (v j) w') → (∀ d, (∀ i, i < m → d i = true) → J v d w' → Q .normal { tmps := layAll ops v base, defers := ds } w')
theorem DetK.cons {base : Array Value} {ds : List Deferred} {w0 : World} {N : Nat} {F : World → World → Prop} {J : BoxI} {m i : Nat} {rs : List Told} {o : Oper} (p : Told) (ho : ops[i]? = some o) (him : i < m) (hg : p.keeps F)
  (h : DetStepK P ops Q base ds w0 N F J rs i o p) (hs : DetK P ops Q base ds w0 N F J m (i + 1) (p :: rs)) : DetK P ops Q base ds w0 N F J m i rs := fun hl => by
 obtain ⟨full, h1, h2, h3, h4⟩ := hs (by rw [List.length_cons, hl])
 rw [List.reverse_cons] at h2
 have htk : full.take i = rs.reverse := by
  have h5 : full.take i = (full.take (i + 1)).take i := by rw [List.take_take, Nat.min_eq_left (by omega)]
  rw [h5, h2, List.take_append_of_le_length (by rw [List.length_reverse]; omega), List.take_of_length_le (by rw [List.length_reverse]; omega)]
 refine ⟨full, h1, htk, fun j hj hjm o' p' ho' hp' => ?_, h4⟩
 rcases Nat.lt_or_ge i j with hlt | hge
 ·exact h3 j hlt hjm o' p' ho' hp'
 ·have hji : j = i := by omega
  subst hji
  rw [ho] at ho'
  injection ho' with ho'
  subst ho'
  have h5 : full[j]? = some p := by
   have h6 : (full.take (j + 1))[j]? = (rs.reverse ++ [p])[j]? := by rw [h2]
   rw [List.getElem?_take_of_lt (by omega), List.getElem?_append_right (by rw [List.length_reverse]; omega)] at h6
   rw [h6]
   simp [hl]
  rw [h5] at hp'
  injection hp' with hp'
  subst hp'
  rw [htk, List.reverse_reverse]
  exact ⟨hg, h⟩
theorem region_detK {id : Nat} {a : Act} {w : World} (N : Nat) (hN : N ≤ w.heap.size) (F : World → World → Prop) (J : BoxI) (m : Nat) (hF : F w w.drew) (hJ : ∀ v, J v (fun _ => false) w.drew) (hm : P.follows .mixedOrders = true) (hr : regionOk ops a.tmps.size = true) (hms : ops.size = m) (h : DetK P ops Q a.tmps a.defers w N F J m 0 []) : (Code.region id ops true).wp P Q a w := by
 obtain ⟨full, h1, _, h3, h4⟩ := h rfl
 refine region_vals hm hr (fun v d w' => DetIN N w full v d w' ∧ J v d w') (fun v => ⟨⟨(bN_ (Below.refl _ _) 1 : Below w.heap.size w _).mono hN, fun j hj => by cases hj⟩, hJ v⟩) (fun i => ?_)
  (fun v d w' hall hI => h4 v w' hI.1.1 (fun j p hp => hI.1.2 j (hall j (by have := (List.getElem?_eq_some_iff.1 hp).1; omega)) p hp) d (fun i hi => hall i (by omega)) hI.2)
 intro o ho v d T w' hH hI hd hdep K hK
 have him : i < m := by have := (Array.getElem?_eq_some_iff.1 ho).1; omega
 have hp : full[i]? = some full[i] := List.getElem?_eq_getElem (by omega)
 obtain ⟨hg, hs⟩ := h3 i (Nat.zero_le _) him o _ ho hp
 have hlen : (full.take i).reverse.length = i := by rw [List.length_reverse, List.length_take]; omega
 have hd2 : ∀ j, (o.after.any fun e => Region.binds .any e && decide (e.on = j)) = true → d j = true := by
  intro j hj
  rw [Array.any_eq_true'] at hj
  obtain ⟨e, he, h5⟩ := hj
  rw [Bool.and_eq_true, decide_eq_true_eq] at h5
  rw [← h5.2]
  exact hdep e he h5.1
 refine hs v d T w' hI.1.1 hI.2 hd (fun j t p hji hj hjt hjp => ?_) (fun j hj => ⟨hd2 j hj, fun t ht => hH.done j t (hd2 j hj) ht⟩) (fun t ht => hH.base t (fun j _ e => ?_)) K (fun u w2 hF2 hb2 hu hJ2 => hK u w2 ⟨⟨hb2, fun j hj p hjp => ?_⟩, hJ2⟩)
 ·have hdj := hd2 j hj
  rw [hH.done j t hdj hjt]
  have h6 := rev_at hlen hji hjp
  rw [List.reverse_reverse, List.getElem?_take_of_lt hji] at h6
  exact hI.1.2 j hdj p h6
 ·rw [List.all_eq_true] at ht
  rcases Nat.lt_or_ge j ops.size with hlt | hge
  ·exact of_decide_eq_true (ht j (List.mem_range.2 hlt)) e
  ·unfold dstOf at e
   rw [Array.getElem?_eq_none hge] at e
   cases e
 ·by_cases hji : j = i
  ·subst hji
   rw [hp] at hjp
   injection hjp with hjp
   subst hjp
   rw [upd_same]
   exact hu
  ·rw [yae_ _ _ hji] at hj ⊢
   have hjm : j < m := by have := (List.getElem?_eq_some_iff.1 hjp).1; omega
   exact (h3 j (Nat.zero_le _) hjm _ p (Array.getElem?_eq_getElem (by omega)) hjp).1 _ _ _ (hI.1.2 j hj p hjp) hF2
theorem DetK.told {base : Array Value} {ds : List Deferred} {w0 : World} {N : Nat} {F : World → World → Prop} {J : BoxI} {m i : Nat} {rs : List Told} {o : Oper} (hN : N ≤ w0.heap.size) (hF : ∀ w w', Below w.heap.size w w' → F w w') (S : List Nat)
  (hJ : ∀ i, i ∉ S → ∀ v d (w w' : World) u, J v d w → d i = false → Below w.heap.size w w' → J (upd v i u) (upd d i true) w') (p : Told) (ho : ops[i]? = some o) (him : i < m) (hS : i ∉ S) (hg : p.keeps F)
  (h : ∀ (T : Array Value) (w : World), Below N w0 w →
   (∀ j t p, j < i → (o.after.any fun e => Region.binds .any e && decide (e.on = j)) = true → dstOf ops j = some t → rs[i - 1 - j]? = some p → p (T.getD t undef) w) →
   (∀ t, ((List.range ops.size).all fun j => decide (dstOf ops j ≠ some t)) = true → T.getD t undef = base.getD t undef) →
   ∀ K : Act → World → Prop, (∀ u w2, Below w.heap.size w w2 → p u w2 → K ({ tmps := T, defers := ds : Act }.put o.dst u) w2) →
    if Region.wanted o (yielded ops T) = true then Oper.wp P o { tmps := T, defers := ds } w K Q else K ({ tmps := T, defers := ds : Act }.put o.dst undef) w)
  (hs : DetK P ops Q base ds w0 N F J m (i + 1) (p :: rs)) : DetK P ops Q base ds w0 N F J m i rs :=
 DetK.cons p ho him hg (fun v d T w hb hj hd h1 h2 hB K hK => h T w hb h1 hB K (fun u w2 hb2 hu => hK u w2 (hF _ _ hb2) (hb.trans (hb2.mono (Nat.le_trans hN hb.size))) hu (hJ i hS v d w w2 u hj hd hb2))) hs
theorem DetK.done {base : Array Value} {ds : List Deferred} {w0 : World} {N : Nat} {F : World → World → Prop} {J : BoxI} {m i : Nat} {rs : List Told} (l : List (Option Tmp)) (hd : (List.range m).map (dstOf ops) = l) (hms : ops.size = m) (hi : i = m)
  (h : ∀ v d w', Below N w0 w' → (∀ (j : Nat) (p : Told), j < m → rs[m - 1 - j]? = some p → p (v j) w') → (∀ i, i < m → d i = true) → J v d w' → Q .normal { tmps := layL l 0 v base, defers := ds } w') : DetK P ops Q base ds w0 N F J m i rs := fun hl => by
 subst hi
 refine ⟨rs.reverse, by rw [List.length_reverse]; exact hl, List.take_of_length_le (by rw [List.length_reverse]; omega), fun j hj hjm => by omega, fun v w' hb hv d hall hJ => ?_⟩
 have e : layAll ops v base = layL l 0 v base := by
  rw [← layFirst_layL hd]
  unfold layAll layFirst
  rw [hms]
  try rfl
 rw [e]
 exact h v d w' hb (fun j p hj h1 => hv j p (rev_at hl hj h1)) hall hJ
end
end
section
def KeepV (gu gd : Nat) (w w' : World) : Prop := ∀ k, k ≠ gu → k ≠ gd → k < w.heap.size → w'.heap[k]? = w.heap[k]?
theorem KeepV.of_below (gu gd : Nat) (w w' : World) (h : Below w.heap.size w w') : KeepV gu gd w w' := fun k _ _ hk => h.block k hk
theorem KeepV.one {gu gd : Nat} {w : World} {g i : Nat} {u : Value} (h : g = gu ∨ g = gd) : KeepV gu gd w (w.setCell ⟨g, i, none⟩ u) := fun k h1 h2 _ => Below.heap_setCell _ _ _ k (by show k ≠ g; omega)
def OwnTold (w0 : World) (N : Nat) (l : List S30) : Told := fun u w => ∃ A c, u = .slice A l.length c ∧ Own w0 w N A c l
theorem OwnTold.keeps {w0 : World} {N gu gd : Nat} {l : List S30} (h1 : gu < N) (h2 : gd < N) : (OwnTold w0 N l).keeps (KeepV gu gd) := fun u w w' h hk => by
 obtain ⟨A, c, e, g1, g2, g3⟩ := h
 refine ⟨A, c, e, g1, g2, fun hne => ?_⟩
 obtain ⟨g, e2, hN, cells, c1, c2⟩ := g3 hne
 exact ⟨g, e2, hN, cells, (hk g (by omega) (by omega) (Array.getElem?_eq_some_iff.1 c1).1).trans c1, c2⟩
def Dif (x y : Value) : Prop := ∀ g h n m c e, x = .slice (some ⟨g, 0, none⟩) n c → n ≠ 0 → y = .slice (some ⟨h, 0, none⟩) m e → m ≠ 0 → g ≠ h
structure BoxM (gu gd M : Nat) (a b : Value) (v : Nat → Value) (d : Nat → Bool) (w : World) : Prop where
 bu : w.heap[gu]? = some (.cells #[if d 4 = true then v 1 else a] 28 (0, 0))
 bd : w.heap[gd]? = some (.cells #[if d 5 = true then v 3 else b] 28 (0, 0))
 i4 : d 4 = true → d 0 = true ∧ d 1 = true
 i5 : d 5 = true → d 2 = true ∧ d 3 = true
 sz : M ≤ w.heap.size
 i3 : d 3 = true → d 1 = true
 dif : d 3 = true → Dif (v 1) (v 3)
theorem upd_up {d : Nat → Bool} {i : Nat} : ∀ j, d j = true → (upd d i true) j = true := fun j hj => by
 by_cases hji : j = i
 ·rw [hji, upd_same]
 ·rw [yae_ _ _ hji]; exact hj
theorem BoxM.other {gu gd M i : Nat} {a b : Value} (hi : i ∉ [3, 4, 5]) {v : Nat → Value} {d : Nat → Bool} {w w2 : World} {u : Value} (h : BoxM gu gd M a b v d w) (hd : d i = false) (hb : Below w.heap.size w w2) : BoxM gu gd M a b (upd v i u) (upd d i true) w2 := by
 have i3 : 3 ≠ i := fun e => hi (by simp [← e])
 have i4 : 4 ≠ i := fun e => hi (by simp [← e])
 have i5 : 5 ≠ i := fun e => hi (by simp [← e])
 have e4 : (if d 4 = true then (upd v i u) 1 else a) = if d 4 = true then v 1 else a := by
  by_cases h7 : d 4 = true
  ·have := (h.i4 h7).2
   rw [if_pos h7, if_pos h7, yae_ _ _ (fun e => by rw [e, hd] at this; cases this)]
  ·rw [if_neg h7, if_neg h7]
 refine ⟨?_, ?_, fun h2 => ?_, fun h2 => ?_, Nat.le_trans h.sz hb.size, fun h2 => ?_, fun h2 => ?_⟩
 ·rw [yae_ _ _ i4, e4]; exact kB_ h.bu hb
 ·rw [yae_ _ _ i5, yae_ _ _ i3]; exact kB_ h.bd hb
 ·rw [yae_ _ _ i4] at h2; exact ⟨upd_up 0 (h.i4 h2).1, upd_up 1 (h.i4 h2).2⟩
 ·rw [yae_ _ _ i5] at h2; exact ⟨upd_up 2 (h.i5 h2).1, upd_up 3 (h.i5 h2).2⟩
 ·rw [yae_ _ _ i3] at h2; exact upd_up 1 (h.i3 h2)
 ·rw [yae_ _ _ i3] at h2
  have h1 := h.i3 h2
  rw [yae_ _ _ i3, yae_ _ _ (fun e => by rw [e, hd] at h1; cases h1)]
  exact h.dif h2
theorem BoxM.set3 {gu gd M : Nat} {a b : Value} {v : Nat → Value} {d : Nat → Bool} {w w2 : World} {u : Value} (h : BoxM gu gd M a b v d w) (hd : d 3 = false) (hd1 : d 1 = true) (hu : Dif (v 1) u) (hb : Below w.heap.size w w2) : BoxM gu gd M a b (upd v 3 u) (upd d 3 true) w2 := by
 have h5 : d 5 = false := by
  cases h5 : d 5 with
  | false => rfl
  | true => exact absurd (h.i5 h5).2 (by rw [hd]; decide)
 refine ⟨?_, ?_, fun h2 => ?_, fun h2 => ?_, Nat.le_trans h.sz hb.size, fun h2 => ?_, fun h2 => ?_⟩
 ·rw [yae_ _ _ (by decide), yae_ _ _ (by decide)]; exact kB_ h.bu hb
 ·have := h.bd
  rw [h5] at this
  rw [yae_ _ _ (by decide), h5]; exact kB_ this hb
 ·rw [yae_ _ _ (by decide)] at h2; exact ⟨upd_up 0 (h.i4 h2).1, upd_up 1 (h.i4 h2).2⟩
 ·rw [yae_ _ _ (by decide), h5] at h2; cases h2
 ·exact upd_up 1 hd1
 ·rw [upd_same, yae_ _ _ (by decide)]; exact hu
theorem BoxM.set4 {gu gd M : Nat} {a b : Value} (hne : gu ≠ gd) {v : Nat → Value} {d : Nat → Bool} {w : World} {u : Value} (h : BoxM gu gd M a b v d w) (hd : d 4 = false) (hd0 : d 0 = true) (hd1 : d 1 = true) : BoxM gu gd M a b (upd v 4 u) (upd d 4 true) (w.setCell ⟨gu, 0, none⟩ (v 1)) := by
 refine ⟨?_, ?_, fun _ => ⟨upd_up 0 hd0, upd_up 1 hd1⟩, fun h2 => ?_, by rw [setCell_size]; exact h.sz, fun h2 => ?_, fun h2 => ?_⟩
 ·rw [upd_same, if_pos rfl, yae_ _ _ (by decide)]
  have h1 := h.bu
  rw [hd, if_neg (by decide)] at h1
  exact (blk_set h1 0 _).trans rfl
 ·rw [yae_ _ _ (by decide), yae_ _ _ (by decide)]
  exact (Below.heap_setCell _ _ _ gd (by show gd ≠ gu; omega)).trans h.bd
 ·rw [yae_ _ _ (by decide)] at h2; exact ⟨upd_up 2 (h.i5 h2).1, upd_up 3 (h.i5 h2).2⟩
 ·rw [yae_ _ _ (by decide)] at h2; exact upd_up 1 (h.i3 h2)
 ·rw [yae_ _ _ (by decide)] at h2; rw [yae_ _ _ (by decide), yae_ _ _ (by decide)]; exact h.dif h2
theorem BoxM.set5 {gu gd M : Nat} {a b : Value} (hne : gu ≠ gd) {v : Nat → Value} {d : Nat → Bool} {w : World} {u : Value} (h : BoxM gu gd M a b v d w) (hd : d 5 = false) (hd0 : d 2 = true) (hd1 : d 3 = true) : BoxM gu gd M a b (upd v 5 u) (upd d 5 true) (w.setCell ⟨gd, 0, none⟩ (v 3)) := by
 refine ⟨?_, ?_, fun h2 => ?_, fun _ => ⟨upd_up 2 hd0, upd_up 3 hd1⟩, by rw [setCell_size]; exact h.sz, fun h2 => ?_, fun h2 => ?_⟩
 ·rw [yae_ _ _ (by decide), yae_ _ _ (by decide)]
  exact (Below.heap_setCell _ _ _ gu (by show gu ≠ gd; omega)).trans h.bu
 ·rw [upd_same, if_pos rfl, yae_ _ _ (by decide)]
  have h1 := h.bd
  rw [hd, if_neg (by decide)] at h1
  exact (blk_set h1 0 _).trans rfl
 ·rw [yae_ _ _ (by decide)] at h2; exact ⟨upd_up 0 (h.i4 h2).1, upd_up 1 (h.i4 h2).2⟩
 ·rw [yae_ _ _ (by decide)] at h2; exact upd_up 1 (h.i3 h2)
 ·rw [yae_ _ _ (by decide)] at h2; rw [yae_ _ _ (by decide), yae_ _ _ (by decide)]; exact h.dif h2
theorem OwnTold.less {w0 : World} {N M : Nat} {l : List S30} {u : Value} {w : World} (h : OwnTold w0 N l u w) (hm : M ≤ N) : OwnTold w0 M l u w := by
 obtain ⟨A, c, e, g1, g2, g3⟩ := h
 exact ⟨A, c, e, g1, g2, fun hne => by obtain ⟨g, e2, hN, r⟩ := g3 hne; exact ⟨g, e2, Nat.le_trans hm hN, r⟩⟩
set_option maxHeartbeats 4000000 in
set_option maxRecDepth 100000 in
theorem Multi_r1 {id : Nat} {a : Act} {w : World} {Q : Exit → Act → World → Prop} {w0 : World} {N gu gd c e : Nat} {A B : Option Addr} {la lb : List S30}
  (hr : regionOk #[{ dst := some 5, op := Op.load 28 (Operand.tmp 2), type := 28, pos := "order.go:22", after := #[], guard := none }, { dst := some 6, op := Op.call { callee := Callee.value (Operand.func 90), args := #[Operand.tmp 5], argTypes := #[28] }, type := 28, pos := "order.go:22", after := #[{ on := 0, ground := Ground.data }], guard := none }, { dst := some 7, op := Op.load 28 (Operand.tmp 3), type := 28, pos := "order.go:22", after := #[], guard := none }, { dst := some 8, op := Op.call { callee := Callee.value (Operand.func 90), args := #[Operand.tmp 7], argTypes := #[28] }, type := 28, pos := "order.go:22", after := #[{ on := 2, ground := Ground.data }, { on := 1, ground := Ground.chain }], guard := none }, { dst := none, op := Op.store 28 (Operand.tmp 2) (Operand.tmp 6), type := 0, pos := "order.go:22", after := #[{ on := 1, ground := Ground.data }, { on := 3, ground := Ground.chain }, { on := 0, ground := Ground.phase }, { on := 1, ground := Ground.phase }, { on := 2, ground := Ground.textOnly Departure.inlinedCapture }, { on := 3, ground := Ground.textOnly Departure.lateStoresUnsure }], guard := none }, { dst := none, op := Op.store 28 (Operand.tmp 3) (Operand.tmp 8), type := 0, pos := "order.go:22", after := #[{ on := 3, ground := Ground.data }, { on := 4, ground := Ground.chain }, { on := 0, ground := Ground.phase }, { on := 1, ground := Ground.phase }, { on := 2, ground := Ground.phase }, { on := 3, ground := Ground.phase }, { on := 4, ground := Ground.phase }], guard := none }] a.tmps.size = true)
  (hT2 : a.tmps.getD 2 undef = .pointer (some ⟨gu, 0, none⟩))
  (hT3 : a.tmps.getD 3 undef = .pointer (some ⟨gd, 0, none⟩))
  (hN : N ≤ w.heap.size) (hgu : N ≤ gu) (hgd : N ≤ gd) (hne : gu ≠ gd) (hU : w.heap[gu]? = some (.cells #[.slice A la.length c] 28 (0, 0))) (hD : w.heap[gd]? = some (.cells #[.slice B lb.length e] 28 (0, 0)))
  (hF1 : ∀ w1, Below N w w1 → w.heap.size ≤ w1.heap.size → Calls Try.prog 90 #[.slice A la.length c] w1 fun e w2 => ∃ u, e = .returned u ∧ OwnTold w0 w.heap.size la u w2 ∧ Below w1.heap.size w1 w2)
  (hF3 : ∀ w1, Below N w w1 → w.heap.size ≤ w1.heap.size → Calls Try.prog 90 #[.slice B lb.length e] w1 fun e w2 => ∃ u, e = .returned u ∧ OwnTold w0 w1.heap.size lb u w2 ∧ Below w1.heap.size w1 w2)
  (hK : ∀ v w' A1 c1 B1 e1, Below N w w' → w'.heap[gu]? = some (.cells #[.slice A1 la.length c1] 28 (0, 0)) → w'.heap[gd]? = some (.cells #[.slice B1 lb.length e1] 28 (0, 0)) → Own w0 w' w.heap.size A1 c1 la → Own w0 w' w.heap.size B1 e1 lb → Dif (.slice A1 la.length c1) (.slice B1 lb.length e1) → Q .normal { tmps := layL [some 5, some 6, some 7, some 8, none, none] 0 v a.tmps, defers := a.defers } w') :
  (Code.region id #[{ dst := some 5, op := Op.load 28 (Operand.tmp 2), type := 28, pos := "order.go:22", after := #[], guard := none }, { dst := some 6, op := Op.call { callee := Callee.value (Operand.func 90), args := #[Operand.tmp 5], argTypes := #[28] }, type := 28, pos := "order.go:22", after := #[{ on := 0, ground := Ground.data }], guard := none }, { dst := some 7, op := Op.load 28 (Operand.tmp 3), type := 28, pos := "order.go:22", after := #[], guard := none }, { dst := some 8, op := Op.call { callee := Callee.value (Operand.func 90), args := #[Operand.tmp 7], argTypes := #[28] }, type := 28, pos := "order.go:22", after := #[{ on := 2, ground := Ground.data }, { on := 1, ground := Ground.chain }], guard := none }, { dst := none, op := Op.store 28 (Operand.tmp 2) (Operand.tmp 6), type := 0, pos := "order.go:22", after := #[{ on := 1, ground := Ground.data }, { on := 3, ground := Ground.chain }, { on := 0, ground := Ground.phase }, { on := 1, ground := Ground.phase }, { on := 2, ground := Ground.textOnly Departure.inlinedCapture }, { on := 3, ground := Ground.textOnly Departure.lateStoresUnsure }], guard := none }, { dst := none, op := Op.store 28 (Operand.tmp 3) (Operand.tmp 8), type := 0, pos := "order.go:22", after := #[{ on := 3, ground := Ground.data }, { on := 4, ground := Ground.chain }, { on := 0, ground := Ground.phase }, { on := 1, ground := Ground.phase }, { on := 2, ground := Ground.phase }, { on := 3, ground := Ground.phase }, { on := 4, ground := Ground.phase }], guard := none }] true).wp Try.prog Q a w := by
 have hmx : Try.prog.follows .mixedOrders = true := by kernel_rfl
 have hJo : ∀ i, i ∉ [3, 4, 5] → ∀ v d (w1 w2 : World) u, (BoxM gu gd w.heap.size (.slice A la.length c) (.slice B lb.length e)) v d w1 → d i = false → Below w1.heap.size w1 w2 → (BoxM gu gd w.heap.size (.slice A la.length c) (.slice B lb.length e)) (upd v i u) (upd d i true) w2 := fun i hi v d w1 w2 u h hd hb => BoxM.other hi h hd hb
 refine region_detK N hN (KeepV gu gd) (BoxM gu gd w.heap.size (.slice A la.length c) (.slice B lb.length e)) 6 (KeepV.of_below gu gd _ _ (bN_ (Below.refl _ _) 1)) (fun v => ⟨kD_ hU, kD_ hD, fun h => (by cases h), fun h => (by cases h), Nat.le_refl _, fun h => (by cases h), fun h => (by cases h)⟩) hmx hr rfl ?_
 refine DetK.cons (o := { dst := some 5, op := Op.load 28 (Operand.tmp 2), type := 28, pos := "order.go:22", after := #[], guard := none }) (fun u _ => u = .slice A la.length c) rfl (by decide) (fun _ _ _ h _ => h) (fun v d T w' hb hj hd0 hd hdd hB K hK => ?sx1) ?rx1
 case sx1 =>
  have e2 := (hB 2 (by kernel_rfl)).trans hT2
  rw [if_pos (yac_ _ rfl)]
  have hz : d 4 = false := by
   cases h4 : d 4 with
   | false => rfl
   | true => exact absurd (hj.i4 h4).1 (by rw [hd0]; decide)
  have hbx := hj.bu
  rw [if_neg (by rw [hz]; decide)] at hbx
  have q0 : w'.cell? ⟨gu, 0, none⟩ = some (.slice A la.length c) := (yaa_ hbx 0).trans rfl
  have hd0' := Az_.mk hd0
  clear hd hdd hB hd0 hbx hz
  go_simp
  exact hK _ _ (KeepV.of_below gu gd _ _ (Below.refl _ _)) hb rfl (BoxM.other (by decide) hj hd0'.out (Below.refl _ _))
 refine DetK.told hN (KeepV.of_below gu gd) [3, 4, 5] hJo (o := { dst := some 6, op := Op.call { callee := Callee.value (Operand.func 90), args := #[Operand.tmp 5], argTypes := #[28] }, type := 28, pos := "order.go:22", after := #[{ on := 0, ground := Ground.data }], guard := none }) (OwnTold w0 w.heap.size la) rfl (by decide) (by decide) (OwnTold.keeps (blk_lt hU) (blk_lt hD)) (fun T w' hb hd hB K hK => ?sx2) ?rx2
 case sx2 =>
  have e5 := hd 0 5 _ (by decide) (by kernel_rfl) rfl rfl
  replace e5 : T.getD 5 undef = _ := e5
  rw [if_pos (yac_ _ rfl)]
  have hcl := hF1 w' hb hb.size
  clear hd hB
  go_simp
  go_at_call 90
  refine hcl.mono ?_
  rintro e w2 ⟨u, rfl, h1, h2⟩
  exact hK _ _ h2 h1
 refine DetK.cons (o := { dst := some 7, op := Op.load 28 (Operand.tmp 3), type := 28, pos := "order.go:22", after := #[], guard := none }) (fun u _ => u = .slice B lb.length e) rfl (by decide) (fun _ _ _ h _ => h) (fun v d T w' hb hj hd0 hd hdd hB K hK => ?sx3) ?rx3
 case sx3 =>
  have e3 := (hB 3 (by kernel_rfl)).trans hT3
  rw [if_pos (yac_ _ rfl)]
  have hz : d 5 = false := by
   cases h4 : d 5 with
   | false => rfl
   | true => exact absurd (hj.i5 h4).1 (by rw [hd0]; decide)
  have hbx := hj.bd
  rw [if_neg (by rw [hz]; decide)] at hbx
  have q0 : w'.cell? ⟨gd, 0, none⟩ = some (.slice B lb.length e) := (yaa_ hbx 0).trans rfl
  have hd0' := Az_.mk hd0
  clear hd hdd hB hd0 hbx hz
  go_simp
  exact hK _ _ (KeepV.of_below gu gd _ _ (Below.refl _ _)) hb rfl (BoxM.other (by decide) hj hd0'.out (Below.refl _ _))
 refine DetK.cons (o := { dst := some 8, op := Op.call { callee := Callee.value (Operand.func 90), args := #[Operand.tmp 7], argTypes := #[28] }, type := 28, pos := "order.go:22", after := #[{ on := 2, ground := Ground.data }, { on := 1, ground := Ground.chain }], guard := none }) (OwnTold w0 w.heap.size lb) rfl (by decide) (OwnTold.keeps (blk_lt hU) (blk_lt hD)) (fun v d T w' hb hj hd0 hd hdd hB K hK => ?sx4) ?rx4
 case sx4 =>
  have e7 := hd 2 7 _ (by decide) (by kernel_rfl) rfl rfl
  replace e7 : T.getD 7 undef = _ := e7
  rw [if_pos (yac_ _ rfl)]
  have hcl := hF3 w' hb hb.size
  have e7 := hd 2 7 _ (by decide) (by kernel_rfl) rfl rfl
  replace e7 : T.getD 7 undef = _ := e7
  have hv1 := (hdd 1 (by kernel_rfl)).2 6 rfl
  have hd1 := Az_.mk (hdd 1 (by kernel_rfl)).1
  obtain ⟨X, cx, f, hown⟩ := hd 1 6 _ (by decide) (by kernel_rfl) rfl rfl
  have hv1' := Az_.mk (hv1.symm.trans f)
  have hown' := Az_.mk hown
  have hd0' := Az_.mk hd0
  clear hd hdd hB hd0 hv1 f hown
  go_simp
  go_at_call 90
  refine hcl.mono ?_
  rintro e w2 ⟨u, rfl, hu, hb2⟩
  refine hK _ _ (KeepV.of_below gu gd _ _ hb2) (hb.trans (hb2.mono (Nat.le_trans hN hb.size))) (hu.less hb.size) (BoxM.set3 hj hd0'.out hd1.out ?_ hb2)
  intro g h n m c1 e1 h1 hn h2 hm
  rw [hv1'.out] at h1
  injection h1 with h3 h4 h5
  obtain ⟨B3, e3, h6, ow⟩ := hu
  rw [h6] at h2
  injection h2 with h7 h8 h9
  obtain ⟨g', k1, _, k2⟩ := hown'.out.2.2 (fun e => hn (by rw [← h4, e]; rfl))
  obtain ⟨h', k3, k4, _⟩ := ow.2.2 (fun e => hm (by rw [← h8, e]; rfl))
  rw [h3] at k1
  rw [h7] at k3
  injection k1 with k1
  injection k1 with k1
  injection k3 with k3
  injection k3 with k3
  have := k2.lt
  omega
 refine DetK.cons (o := { dst := none, op := Op.store 28 (Operand.tmp 2) (Operand.tmp 6), type := 0, pos := "order.go:22", after := #[{ on := 1, ground := Ground.data }, { on := 3, ground := Ground.chain }, { on := 0, ground := Ground.phase }, { on := 1, ground := Ground.phase }, { on := 2, ground := Ground.textOnly Departure.inlinedCapture }, { on := 3, ground := Ground.textOnly Departure.lateStoresUnsure }], guard := none }) (fun _ _ => True) rfl (by decide) (fun _ _ _ _ _ => trivial) (fun v d T w' hb hj hd0 hd hdd hB K hK => ?sx5) ?rx5
 case sx5 =>
  have e2 := (hB 2 (by kernel_rfl)).trans hT2
  obtain ⟨X6, cx6, e6, how6⟩ := (hd 1 6 _ (by decide) (by kernel_rfl) rfl rfl)
  rw [if_pos (yac_ _ rfl)]
  have hv1 := (hdd 1 (by kernel_rfl)).2 6 rfl
  obtain ⟨X, cx, f, hown⟩ := hd 1 6 _ (by decide) (by kernel_rfl) rfl rfl
  replace e6 : T.getD 6 undef = .slice X la.length cx := f
  clear f hown
  have hdn0 := (hdd 0 (by kernel_rfl)).1
  have hdn := (hdd 1 (by kernel_rfl)).1
  have hv' : Az_ (v 1 = .slice X la.length cx) := ⟨hv1.symm.trans e6⟩
  have hbx := hj.bu
  rw [hd0, if_neg (by decide)] at hbx
  have q0 : w'.cell? ⟨gu, 0, none⟩ = some (.slice A la.length c) := (yaa_ hbx 0).trans rfl
  have z0 := yab_ hbx 0
  have hd0' := Az_.mk hd0
  have hdn' := Az_.mk hdn
  have hdn0' := Az_.mk hdn0
  clear hd hdd hB hbx hd0 hdn hdn0 hv1
  go_simp
  refine hK undef _ (KeepV.one (.inl rfl)) (hb.setCell hgu _) trivial ?_
  rw [← hv'.out]
  exact BoxM.set4 hne hj hd0'.out hdn0'.out hdn'.out
 refine DetK.cons (o := { dst := none, op := Op.store 28 (Operand.tmp 3) (Operand.tmp 8), type := 0, pos := "order.go:22", after := #[{ on := 3, ground := Ground.data }, { on := 4, ground := Ground.chain }, { on := 0, ground := Ground.phase }, { on := 1, ground := Ground.phase }, { on := 2, ground := Ground.phase }, { on := 3, ground := Ground.phase }, { on := 4, ground := Ground.phase }], guard := none }) (fun _ _ => True) rfl (by decide) (fun _ _ _ _ _ => trivial) (fun v d T w' hb hj hd0 hd hdd hB K hK => ?sx6) ?rx6
 case sx6 =>
  have e3 := (hB 3 (by kernel_rfl)).trans hT3
  have e8 := (hdd 3 (by kernel_rfl)).2 8 rfl
  rw [if_pos (yac_ _ rfl)]
  have hv3 := (hdd 3 (by kernel_rfl)).2 8 rfl
  obtain ⟨X, cx, f, hown⟩ := hd 3 8 _ (by decide) (by kernel_rfl) rfl rfl
  replace e8 : T.getD 8 undef = .slice X lb.length cx := f
  clear f hown
  have hdn0 := (hdd 2 (by kernel_rfl)).1
  have hdn := (hdd 3 (by kernel_rfl)).1
  have hv' : Az_ (v 3 = .slice X lb.length cx) := ⟨hv3.symm.trans e8⟩
  have hbx := hj.bd
  rw [hd0, if_neg (by decide)] at hbx
  have q0 : w'.cell? ⟨gd, 0, none⟩ = some (.slice B lb.length e) := (yaa_ hbx 0).trans rfl
  have z0 := yab_ hbx 0
  have hd0' := Az_.mk hd0
  have hdn' := Az_.mk hdn
  have hdn0' := Az_.mk hdn0
  clear hd hdd hB hbx hd0 hdn hdn0 hv3
  go_simp
  refine hK undef _ (KeepV.one (.inr rfl)) (hb.setCell hgd _) trivial ?_
  rw [← hv'.out]
  exact BoxM.set5 hne hj hd0'.out hdn0'.out hdn'.out
 refine DetK.done [some 5, some 6, some 7, some 8, none, none] (by kernel_rfl) rfl rfl ?_
 intro v d w' hb hv hall hj
 obtain ⟨A1, c1, e1, o1⟩ := hv 1 _ (by decide) rfl
 obtain ⟨B1, d1, e3, o3⟩ := hv 3 _ (by decide) rfl
 have h1 := hj.bu
 have h2 := hj.bd
 have h3 := hj.dif (hall 3 (by decide))
 rw [e1, e3] at h3
 rw [if_pos (hall 4 (by decide)), e1] at h1
 rw [if_pos (hall 5 (by decide)), e3] at h2
 exact hK v w' A1 c1 B1 d1 hb h1 h2 o1 o3 h3
end
section
def remT (b : List S30) (a : List S30) : List S30 := a.foldl (fun b x => b.eraseP (sameT x)) b
def diffT : List S30 → List S30 → List S30 × List S30
 | [], b => ([], b)
 | x :: r, b => if b.any (sameT x) = true then diffT r (b.eraseP (sameT x)) else (x :: (diffT r b).1, (diffT r b).2)
def multiT (a b : List S30) : Bool := !(diffT a b).1.isEmpty && !((diffT a b).2.any fun y => !((diffT a b).1.any fun x => gtT x y))
def pMulti (a b : List S30) (j : Nat) : Bool := (remT b (a.take j)).any (sameT (a.getD j z30))
theorem diffT_of (a b : List S30) : ∀ (l pre : List S30), a = pre ++ l → keptF (pMulti a b) pre.length l = (diffT l (remT b pre)).1 ∧ remT b a = (diffT l (remT b pre)).2
 | [], pre, h => by rw [List.append_nil] at h; subst h; exact ⟨rfl, rfl⟩
 | x :: l, pre, h => by
  have hr : remT b (pre ++ [x]) = (remT b pre).eraseP (sameT x) := by unfold remT; rw [List.foldl_append]; rfl
  have hp : pMulti a b pre.length = (remT b pre).any (sameT x) := by
   unfold pMulti
   rw [h, List.take_left' rfl, List.getD_eq_getElem?_getD, List.getElem?_append_right (Nat.le_refl _), Nat.sub_self]
   rfl
  obtain ⟨h1, h2⟩ := diffT_of a b l (pre ++ [x]) (by rw [h]; simp)
  rw [List.length_append, List.length_singleton] at h1
  rw [keptF, diffT, hp]
  cases hc : (remT b pre).any (sameT x) with
  | true => rw [if_pos rfl, if_pos rfl, h1, ← hr]; exact ⟨rfl, h2⟩
  | false =>
   rw [eraseP_none _ _ hc] at hr
   rw [if_neg (by decide), if_neg (by decide), h1, hr]
   refine ⟨rfl, ?_⟩
   rw [h2, hr]
theorem kept_sub (p : Nat → Bool) : ∀ (l : List S30) (j : Nat), ∀ x ∈ keptF p j l, x ∈ l
 | [], _, x, h => h
 | y :: l, j, x, h => by
  rw [keptF] at h
  split at h
  ·exact List.mem_cons_of_mem _ (kept_sub p l _ x h)
  ·rcases List.mem_cons.1 h with rfl | h
   ·simp
   ·exact List.mem_cons_of_mem _ (kept_sub p l _ x h)
theorem rem_sub (b : List S30) : ∀ (a : List S30), ∀ x ∈ remT b a, x ∈ b := by
 intro a
 induction a generalizing b with
 | nil => intro x h; exact h
 | cons y a ih => intro x h; exact List.mem_of_mem_eraseP (ih (b.eraseP (sameT y)) x h)
set_option maxHeartbeats 4000000 in
set_option maxRecDepth 100000 in
theorem DeleteFunc_none (A : Option Addr) (cap fn : Nat) (cb : Array Value) (w : World) :
  Calls Try.prog 91 #[.slice A 0 cap, .func (.func fn) #[] cb] w fun r w' => r = .returned (.slice A 0 cap) ∧ Below w.heap.size w w' := by
 have hIF : Calls Try.prog 93 #[.slice A 0 cap, .func (.func fn) #[] cb] w fun r w' => r = .returned (.int .i64 (-1)) ∧ Below w.heap.size w w' := by
  go_enter Try.func93, Try.ntmps93
  go_wp2
  go_loopw [8] (fun i wr => i = .int .i64 0 ∧ Az_ (Below w.heap.size w wr)) (fun i wr => 0)
  case atStart => exact ⟨rfl, ⟨Below.refl _ _⟩⟩
  case round =>
   obtain ⟨rfl, hb⟩ := hrel
   go_wp2
   go_ret
   exact ⟨rfl, hb.out⟩
 have HIF := Az_.mk hIF
 clear hIF
 go_enter Try.func91, Try.ntmps91
 go_wp2_with (go_at_call 93; refine HIF.out.mono ?_; rintro r w2 ⟨rfl, hi⟩; have HI := Az_.mk hi; clear hi)
 go_ret
 exact ⟨rfl, HI.out⟩
theorem Own.more {w0 w : World} {N M : Nat} {A : Option Addr} {c : Nat} {l : List S30} (h : Own w0 w N A c l) (hm : M ≤ N) : Own w0 w M A c l :=
 ⟨h.1, h.2.1, fun hne => by obtain ⟨g, e, hN, r⟩ := h.2.2 hne; exact ⟨g, e, Nat.le_trans hm hN, r⟩⟩
set_option maxHeartbeats 8000000 in
set_option maxRecDepth 100000 in
theorem Multi.calls (la lb : List S30) (A : Option Addr) (c : Nat) (B : Option Addr) (e : Nat) (w : World) (hA : k30.C w A la.length la) (hc : la.length ≤ c) (hB : k30.C w B lb.length lb) (he : lb.length ≤ e) (hfa : ∀ x ∈ la, fit x) (hfb : ∀ x ∈ lb, fit x) (hla : la.length * 32 ≤ 140737488355328) (hlb : lb.length * 32 ≤ 140737488355328) :
  Calls Try.prog 62 #[.slice A la.length c, .slice B lb.length e] w fun r w' => r = .returned (.bool (multiT la lb)) ∧ Below w.heap.size w w' := by
 obtain ⟨w1, hw1⟩ : ∃ w1, w1 = (w.alloc (.cells #[.slice A la.length c] 28)).alloc (.cells #[.slice B lb.length e] 28) := ⟨_, rfl⟩
 have hU : w1.heap[w.heap.size]? = some (.cells #[.slice A la.length c] 28 (0, 0)) := by rw [hw1]; exact kA_ (heap_alloc_new _ _) _
 have hD : w1.heap[w.heap.size + 1]? = some (.cells #[.slice B lb.length e] 28 (0, 0)) := by
  have := heap_alloc_new (w.alloc (.cells #[.slice A la.length c] 28)) (.cells #[.slice B lb.length e] 28)
  rw [World.size_alloc] at this
  rw [hw1]; exact this
 have hb1 : Below w.heap.size w w1 := by rw [hw1]; exact bA_ (bA_ (Below.refl _ _) _) _
 have hs1 : w1.heap.size = w.heap.size + 1 + 1 := by rw [hw1, World.size_alloc, World.size_alloc]
 have hF1 : ∀ w2, Below w.heap.size w1 w2 → w1.heap.size ≤ w2.heap.size → Calls Try.prog 90 #[.slice A la.length c] w2 fun e w3 => ∃ u, e = .returned u ∧ OwnTold w w1.heap.size la u w3 ∧ Below w2.heap.size w2 w3 := fun w2 hb hs =>
  (Clone_T w A c la w2 (hb1.trans hb) hA hc hla).mono (fun r w3 ⟨A', c', h1, h2, h3⟩ => ⟨_, h1, ⟨A', c', rfl, h2.more hs⟩, h3⟩)
 have hF3 : ∀ w2, Below w.heap.size w1 w2 → w1.heap.size ≤ w2.heap.size → Calls Try.prog 90 #[.slice B lb.length e] w2 fun e w3 => ∃ u, e = .returned u ∧ OwnTold w w2.heap.size lb u w3 ∧ Below w2.heap.size w2 w3 := fun w2 hb hs =>
  (Clone_T w B e lb w2 (hb1.trans hb) hB he hlb).mono (fun r w3 ⟨A', c', h1, h2, h3⟩ => ⟨_, h1, ⟨A', c', rfl, h2⟩, h3⟩)
 have HW := Az_.mk hw1
 have HU := Az_.mk hU
 have HD := Az_.mk hD
 have HB1 := Az_.mk hb1
 have HS1 := Az_.mk hs1
 have HF1 := Az_.mk hF1
 have HF3 := Az_.mk hF3
 have HFA := Az_.mk hfa
 have HFB := Az_.mk hfb
 clear hA hB hla hlb hU hD hb1 hs1 hF1 hF3 hfa hfb
 go_enter Try.func62, Try.ntmps62
 go_wp2
 rw [← HW.out]
 refine Multi_r1 (w0 := w) (N := w.heap.size) (gu := w.heap.size) (gd := w.heap.size + 1) (c := c) (e := e) (A := A) (B := B) (la := la) (lb := lb) (by kernel_rfl) rfl rfl (by have := HS1.out; omega) (Nat.le_refl _) (Nat.le_succ _) (Nat.ne_of_lt (Nat.lt_succ_self _)) HU.out HD.out HF1.out HF3.out ?_
 intro v w2 A1 c1 B1 e1 hb2 hu2 hd2 oa ob hdif
 simp only [layL, Nat.reduceAdd, List.setIfInBounds_toArray, List.set_cons_zero, List.set_cons_succ]
 generalize v 0 = t0
 generalize v 1 = t1
 generalize v 2 = t2
 generalize v 3 = t3
 clear v
 have HU2 := Az_.mk hu2
 have HD2 := Az_.mk hd2
 have HB2 := Az_.mk (HB1.out.trans hb2)
 have OA := Az_.mk oa
 have OB := Az_.mk ob
 have DF := Az_.mk hdif
 have k0 : w2.cell? ⟨w.heap.size, 0, none⟩ = some (.slice A1 la.length c1) := (yaa_ hu2 0).trans rfl
 have HS2 := Az_.mk (show w1.heap.size ≤ w2.heap.size from hb2.size)
 clear hb2 hu2 hd2 oa ob hdif hw1 HU HD HF1 HF3
 by_cases hla : la = []
 ·subst hla
  go_wp2_with (go_at_call 91; refine (DeleteFunc_none A1 c1 92 _ w2).mono ?_; rintro r w3 ⟨rfl, hb⟩; have hx := kB_ HU2.out hb; have y0 : w3.cell? ⟨w.heap.size, 0, none⟩ = some (.slice A1 0 c1) := (yaa_ hx 0).trans rfl; have z0 := yab_ hx 0; have HB3 := Az_.mk hb; clear hb hx)
  go_ret
  exact ⟨rfl, (HB2.out.trans (HB3.out.mono HB2.out.size)).setCell (Nat.le_refl _) _⟩
 ·obtain ⟨ha, rfl, hha, hrow⟩ := OA.out.2.2 hla
  have hbb : ∃ hb, (lb ≠ [] → w.heap.size + 1 ≠ hb ∧ ha ≠ hb) ∧ w.heap.size ≤ hb ∧ hb < w2.heap.size ∧ hb ≠ w.heap.size ∧ hb ≠ ha ∧ (lb ≠ [] → B1 = some ⟨hb, 0, none⟩ ∧ RowIs w w2 hb lb) := by
   by_cases hlb : lb = []
   ·refine ⟨w.heap.size + 1, fun h => absurd hlb h, by omega, by have := HS2.out; have := HS1.out; omega, by omega, by have := HS1.out; omega, fun h => absurd hlb h⟩
   ·obtain ⟨hb, h1, h2, h3⟩ := OB.out.2.2 hlb
    have hne : ha ≠ hb := DF.out ha hb la.length lb.length c1 e1 rfl (by have := List.length_pos_iff.2 hla; omega) (by rw [h1]) (by have := List.length_pos_iff.2 hlb; omega)
    have := HS1.out
    exact ⟨hb, fun _ => ⟨by omega, hne⟩, by omega, h3.lt, by omega, fun e => hne e.symm, fun _ => ⟨h1, h3⟩⟩
  obtain ⟨hb, hbne, hbN, hblt, hbu, hba, hbrow⟩ := hbb
  have hI0 : BInv w (w.heap.size + 1) hb (remT lb (la.take 0)) w2 := ⟨B1, e1, HD2.out, OB.out.1, OB.out.2.1, hbrow, HB2.out⟩
  have hDF := DeleteFunc_inv la w ha c1 92 #[.pointer (some ⟨w.heap.size + 1, 0, none⟩)] (fun k => k = w.heap.size + 1 ∨ k = hb) (fun j W => BInv w (w.heap.size + 1) hb (remT lb (la.take j)) W) (pMulti la lb) w2 OA.out.1 OA.out.2.1 eg92
   (fun h => by rcases h with h | h; (have := HS1.out; omega); exact hba h.symm) (fun k h => by rcases h with h | h <;> (have := HS2.out; have := HS1.out; omega)) hrow hI0
   (fun j hj W B' e' hI _ hE => by
    have h1 := multi1_calls w (w.heap.size + 1) hb (remT lb (la.take j)) la[j] B' e' W (fun hne => (hbne (fun e => hne (by have h2 := rem_sub lb (la.take j); rw [e] at h2; exact List.eq_nil_iff_forall_not_mem.2 (fun x hx => by rw [e] at hx; cases h2 x hx)))).1) (Nat.le_succ _) hbN hI hE
    refine h1.mono (fun r w' h => ?_)
    have hp : pMulti la lb j = (remT lb (la.take j)).any (sameT la[j]) := by unfold pMulti; rw [List.getD_eq_getElem?_getD, List.getElem?_eq_getElem hj]; rfl
    have hr : remT lb (la.take (j + 1)) = (remT lb (la.take j)).eraseP (sameT la[j]) := by unfold remT; rw [List.take_succ_eq_append_getElem hj, List.foldl_append]; rfl
    rw [hp, hr]
    exact h)
   (fun j W W' hI hf => by
    obtain ⟨A', c', g1, g2, g3, g4, g5⟩ := hI
    have hn : ¬ (w.heap.size + 1 = ha ∨ w2.heap.size ≤ w.heap.size + 1) := by have := HS1.out; have := HS2.out; omega
    have hn2 : ¬ (hb = ha ∨ w2.heap.size ≤ hb) := by omega
    exact ⟨A', c', hf.blk (g := w.heap.size + 1) hn g1, g2, g3, fun hne => ⟨(g4 hne).1, (g4 hne).2.far hf hn2⟩, g5.trans (hf.toBelow g5.size (fun k hk => by have := HS1.out; have := HS2.out; omega))⟩)
  obtain ⟨hd1, hd2⟩ := diffT_of la lb la [] rfl
  simp only [List.length_nil] at hd1
  have hrl : remT lb [] = lb := rfl
  rw [hrl] at hd1 hd2
  obtain ⟨ka, hka⟩ : ∃ x, x = (diffT la lb).1 := ⟨_, rfl⟩
  obtain ⟨kb, hkb⟩ : ∃ x, x = (diffT la lb).2 := ⟨_, rfl⟩
  rw [hd1, ← hka, List.take_length, hd2, ← hkb] at hDF
  have hkas : ∀ x ∈ ka, x ∈ la := by rw [hka, ← hd1]; exact kept_sub _ _ _
  have hkbs : ∀ x ∈ kb, x ∈ lb := by rw [hkb, ← hd2]; exact rem_sub _ _
  have hkal : ka.length ≤ la.length := by rw [hka, ← hd1]; exact keptF_le _ _ _
  have hres : multiT la lb = (!ka.isEmpty && !(kb.any fun y => !(ka.any fun x => gtT x y))) := by rw [hka, hkb]; rfl
  have HDF := Az_.mk hDF
  have HR := Az_.mk hres
  have HK := Az_.mk (And.intro hkas (And.intro hkbs hkal))
  have hgA : ha ≠ w.heap.size := by have := HS1.out; omega
  have HGA := Az_.mk hgA
  have HGB := Az_.mk (And.intro hbu (And.intro hba hbN))
  have HCB := Az_.mk (And.intro OA.out.1 OA.out.2.1)
  have HHA := Az_.mk hha
  clear hDF hI0 hd1 hd2 hrl hka hkb hkas hkbs hkal hres hgA hbne hbrow hblt hbu hba hrow
  by_cases hke : ka = []
  ·have hl0 : ((ka.length : Int) == 0) = true := by rw [hke]; rfl
   have HKE := Az_.mk hke
   clear hke
   go_wp2_with (go_at_call 91; refine HDF.out.mono ?_; rintro r w3 ⟨rfl, hr3, hi3, hf3⟩; have hx := hf3.blk (g := w.heap.size) (fun h => by have := HGA.out; have := HGB.out.1; omega) HU2.out; have y0 : w3.cell? ⟨w.heap.size, 0, none⟩ = some (.slice (some ⟨ha, 0, none⟩) la.length c1) := (yaa_ hx 0).trans rfl; have z0 := yab_ hx 0; have HX := Az_.mk hx; have HR3 := Az_.mk hr3; have HI3 := Az_.mk hi3; have HB3 := Az_.mk (hf3.toBelow HB2.out.size (fun k hk => by have := HGB.out.2.2; have := HHA.out; have := HS1.out; omega)); have hd3 := hi3; obtain ⟨A', c', g1, g2, g3, g4, g5⟩ := hd3; have HG := Az_.mk (And.intro g2 (And.intro g3 g4)); have hd4 := (Below.heap_setCell w3 ⟨w.heap.size, 0, none⟩ (.slice (some ⟨ha, 0, none⟩) ka.length c1) (w.heap.size + 1) (by show w.heap.size + 1 ≠ w.heap.size; omega)).trans g1; have u0 : (w3.setCell ⟨w.heap.size, 0, none⟩ (.slice (some ⟨ha, 0, none⟩) ka.length c1)).cell? ⟨w.heap.size + 1, 0, none⟩ = some (.slice A' kb.length c') := (yaa_ hd4 0).trans rfl; clear hr3 hi3 hf3 hx g1 g2 g3 g4 g5 hd4)
   go_ret
   rw [HR.out, HKE.out]
   exact ⟨rfl, (HB2.out.trans HB3.out).setCell (Nat.le_refl _) _⟩
  ·have hl0 : ((ka.length : Int) == 0) = false := by rw [beq_eq_false_iff_ne]; have := List.length_pos_iff.2 hke; omega
   have HKE := Az_.mk hke
   clear hke
   have hCF : Az_ (∀ (w3 : World) (A' : Option Addr) (c' : Nat), RowIs w w3 ha ka → (kb.length ≤ c' ∧ c' ≤ 9223372036854775807 ∧ (kb ≠ [] → A' = some ⟨hb, 0, none⟩ ∧ RowIs w w3 hb kb)) → w3.heap[w.heap.size]? = some (.cells #[.slice (some ⟨ha, 0, none⟩) la.length c1] 28 (0, 0)) → Below w.heap.size w2 w3 →
     Calls Try.prog 96 #[.slice A' kb.length c', .func (.func 97) #[] #[.pointer (some ⟨w.heap.size, 0, none⟩)]] (w3.setCell ⟨w.heap.size, 0, none⟩ (.slice (some ⟨ha, 0, none⟩) ka.length c1)) fun r w4 => r = .returned (.bool (kb.any fun y => !(ka.any fun x => gtT x y))) ∧ Below w.heap.size w w4) := ⟨by
    intro w3 A' c' hra hB hx hb3
    obtain ⟨W, hW⟩ : ∃ W, W = w3.setCell ⟨w.heap.size, 0, none⟩ (.slice (some ⟨ha, 0, none⟩) ka.length c1) := ⟨_, rfl⟩
    have hfar : FarB (fun k => k = w.heap.size) w3 W := by rw [hW]; exact FarB.setCell (S := fun k => k = w.heap.size) (FarB.refl _ _) rfl _ _
    have hxW : W.heap[w.heap.size]? = some (.cells #[.slice (some ⟨ha, 0, none⟩) ka.length c1] 28 (0, 0)) := by rw [hW]; exact (blk_set hx 0 _).trans rfl
    have hraW := hra.far hfar (fun e => HGA.out e)
    have hbW : Below w.heap.size w W := (HB2.out.trans hb3).trans (hfar.toBelow (Nat.le_trans HB2.out.size hb3.size) (fun k hk => by omega))
    rw [← hW]
    have hBI : ∀ V, Below W.heap.size W V → BInv w w.heap.size ha ka V := fun V hV => ⟨_, c1, kB_ hxW hV, by have := HCB.out.1; have := HK.out.2.2; omega, HCB.out.2, fun _ => ⟨rfl, hraW.far (FarB.of_below (S := fun _ => False) hV) (fun h => h)⟩, hbW.trans (hV.mono hbW.size)⟩
    refine (ContainsFunc_inv kb.length (by have := hB.1; have := hB.2.1; omega) A' c' hB.1 97 #[.pointer (some ⟨w.heap.size, 0, none⟩)] (fun _ V => Below W.heap.size W V) (fun j => if h : j < kb.length then !(ka.any fun x => gtT x kb[j]) else false) (kb.any fun y => !(ka.any fun x => gtT x y)) W eg97 (fun j hj V hV => ?_) (Below.refl _ _) ?_).mono (fun r w4 h => ⟨h.1, ?_⟩)
    ·obtain ⟨h1, h2⟩ := hB.2.2 (fun e => by rw [e] at hj; exact absurd hj (Nat.not_lt_zero _))
     subst h1
     obtain ⟨B', e', hE, hat⟩ := ((h2.far hfar (fun e => HGB.out.1 e)).far (FarB.of_below (S := fun _ => False) hV) (fun h => h)).el j hj
     refine ⟨kb[j].f0, B', kb[j].f1.length, e', hat, ?_⟩
     rw [dif_pos hj]
     exact (multi2_calls w w.heap.size ha ka kb[j] B' e' V (hBI V hV) hE (fun x hx => HFA.out x (HK.out.1 x hx)) (HFB.out _ (HK.out.2.1 _ (List.getElem_mem hj)))).mono (fun r w' h => ⟨h.1, hV.trans (h.2.mono hV.size)⟩)
    ·rw [List.any_eq_true]
     constructor
     ·rintro ⟨y, hy, hg⟩
      obtain ⟨j, hj, rfl⟩ := List.getElem_of_mem hy
      exact ⟨j, hj, by rw [dif_pos hj]; exact hg⟩
     ·rintro ⟨j, hj, hg⟩
      rw [dif_pos hj] at hg
      exact ⟨kb[j], List.getElem_mem hj, hg⟩
    ·obtain ⟨_, j, _, hj⟩ := h
     exact hbW.trans (hj.mono hbW.size)⟩
   go_wp2_with (first | (go_at_call 96; refine (hCF.out w3 A' c' HR3.out HG.out HX.out HB3.out).mono ?_; rintro r w4 ⟨rfl, hb⟩; have HB4 := Az_.mk hb; clear hb) | (go_at_call 91; refine HDF.out.mono ?_; rintro r w3 ⟨rfl, hr3, hi3, hf3⟩; have hx := hf3.blk (g := w.heap.size) (fun h => by have := HGA.out; have := HGB.out.1; omega) HU2.out; have y0 : w3.cell? ⟨w.heap.size, 0, none⟩ = some (.slice (some ⟨ha, 0, none⟩) la.length c1) := (yaa_ hx 0).trans rfl; have z0 := yab_ hx 0; have HX := Az_.mk hx; have HR3 := Az_.mk hr3; have HI3 := Az_.mk hi3; have HB3 := Az_.mk (hf3.toBelow HB2.out.size (fun k hk => by have := HGB.out.2.2; have := HHA.out; have := HS1.out; omega)); have hd3 := hi3; obtain ⟨A', c', g1, g2, g3, g4, g5⟩ := hd3; have HG := Az_.mk (And.intro g2 (And.intro g3 g4)); have hd4 := (Below.heap_setCell w3 ⟨w.heap.size, 0, none⟩ (.slice (some ⟨ha, 0, none⟩) ka.length c1) (w.heap.size + 1) (by show w.heap.size + 1 ≠ w.heap.size; omega)).trans g1; have u0 : (w3.setCell ⟨w.heap.size, 0, none⟩ (.slice (some ⟨ha, 0, none⟩) ka.length c1)).cell? ⟨w.heap.size + 1, 0, none⟩ = some (.slice A' kb.length c') := (yaa_ hd4 0).trans rfl; clear hr3 hi3 hf3 hx g1 g2 g3 g4 g5 hd4))
   go_ret
   refine ⟨?_, HB4.out⟩
   rw [HR.out]
   have : ka.isEmpty = false := by rw [List.isEmpty_eq_false_iff]; exact HKE.out
   rw [this]
   rfl
end
section
def order_Multi.f (l0 l1 : List S30) : Option Bool := if l0.all fitB = true ∧ l1.all fitB = true ∧ l0.length ≤ 1000000 ∧ l1.length ≤ 1000000 then some (multiT l0 l1) else none
theorem order_Multi.calls (A0 : Option Addr) (c0 : Nat) (l0 : List (S30)) (A1 : Option Addr) (c1 : Nat) (l1 : List (S30)) (r : Bool) (w : World) (hr0 : Kd.C k30 w A0 l0.length l0) (hc0 : l0.length ≤ c0) (hr1 : Kd.C k30 w A1 l1.length l1) (hc1 : l1.length ≤ c1) (h : order_Multi.f l0 l1 = some r) :
  Calls Try.prog 62 #[.slice A0 l0.length c0, .slice A1 l1.length c1] w fun e w' => e = .returned (.bool r) ∧ Below w.heap.size w w' := by
 unfold order_Multi.f at h
 split at h
 ·rename_i hc
  injection h with h
  subst h
  obtain ⟨h1, h2, h3, h4⟩ := hc
  rw [List.all_eq_true] at h1 h2
  exact Multi.calls l0 l1 A0 c0 A1 c1 w hr0 hc0 hr1 hc1 (fun x hx => (fitB_iff x).1 (h1 x hx)) (fun x hx => (fitB_iff x).1 (h2 x hx)) (by omega) (by omega)
 ·cases h
theorem Multi_of {l0 l1 : List S30} (h0 : ∀ x ∈ l0, fit x) (h1 : ∀ x ∈ l1, fit x) (n0 : l0.length ≤ 1000000) (n1 : l1.length ≤ 1000000) : order_Multi.f l0 l1 = some (multiT l0 l1) := by
 unfold order_Multi.f
 rw [if_pos ⟨List.all_eq_true.2 (fun x hx => fitB_of (h0 x hx)), List.all_eq_true.2 (fun x hx => fitB_of (h1 x hx)), n0, n1⟩]
end
section
structure FP where
 p : (Nat → Prop) → Value → World → Prop
 step : ∀ {ok ok' : Nat → Prop} {u : Value} {w w' : World}, p ok u w → (∀ k, ok k → k < w.heap.size → w'.heap[k]? = w.heap[k]?) → (∀ k, ok k → k < w.heap.size → ok' k) → p ok' u w'
section
variable {N : Nat} {t : TypeId} {cs : List (Nat × FP)} {ia is ix : Nat}
end
end
section
theorem gt_ne {a b : S30} (h : gtT a b = true) : cmpT a b ≠ 0 := fun h0 => by rw [gt_same h0] at h; cases h
end
section
theorem eqv_symm {a b : S30} (h : cmpT a b = 0) : cmpT b a = 0 := by have := cmp_anti a b; omega
theorem eqv_trans {a b c : S30} (h : cmpT a b = 0) (h2 : cmpT b c = 0) : cmpT a c = 0 := by
 have := cmp_trans a b c (by omega) (by omega)
 exact this.2.2 ⟨h, h2⟩
theorem eqv_nums : ∀ a b : S30, cmpT a b = 0 → (nodes a).map (·.f0) = (nodes b).map (·.f0) := by
 refine S30.ind ?_
 intro f l ih b h
 obtain ⟨g, m⟩ := b
 obtain ⟨rfl, h2⟩ := cmp_zero h
 by_cases hf : f < 0
 ·simp [nodes, hf]
 ·obtain ⟨h3, h4⟩ := h2 hf
  have key : ∀ (l m : List S30), (∀ x ∈ l, ∀ y, cmpT x y = 0 → (nodes x).map (·.f0) = (nodes y).map (·.f0)) → l.length = m.length → cmpTs l m = 0 → (nodess l).map (·.f0) = (nodess m).map (·.f0) := by
   intro l
   induction l with
   | nil => intro m _ hl _; cases m with
    | nil => rfl
    | cons => simp at hl
   | cons x l ihl =>
    intro m h hl hc
    cases m with
    | nil => simp at hl
    | cons y m =>
     rw [cmpTs] at hc
     split at hc
     ·rename_i h0
      rw [nodess, nodess, List.map_append, List.map_append, h x (by simp) y h0, ihl m (fun x hx => h x (by simp [hx])) (by simpa using hl) hc]
     ·rename_i h0; contradiction
  have := key l m (fun x hx y => ih x hx y) h3 h4
  simp [nodes, hf, this]
theorem countN_map (v : Int) (l : List S30) : countN v l = ((l.map (·.f0)).filter (· == v)).length := by
 unfold countN
 rw [List.filter_map, List.length_map]
 rfl
theorem eqv_count {a b : S30} (h : cmpT a b = 0) (v : Int) : countN v (nodes a) = countN v (nodes b) := by rw [countN_map, countN_map, eqv_nums a b h]
theorem cov_congr {a a' b b' : S30} (ha : cmpT a a' = 0) (hb : cmpT b b' = 0) : covT a b = covT a' b' := by
 rw [Bool.eq_iff_iff, covT_iff, covT_iff]
 have : ∀ x, netV a b x = netV a' b' x := fun x => by rw [netV_eq, netV_eq, eqv_count ha, eqv_count hb]
 simp only [this]
theorem gt_congr : ∀ a a' b b' : S30, cmpT a a' = 0 → cmpT b b' = 0 → gtT a b = gtT a' b' := by
 refine S30.ind ?_
 intro f l ih a' b b' ha hb
 have hcv := cov_congr ha hb
 have hla := cmp_len _ _ ha
 have hlb := cmp_len _ _ hb
 obtain ⟨f', l'⟩ := a'
 obtain ⟨g, m⟩ := b
 obtain ⟨g', m'⟩ := b'
 obtain ⟨rfl, ha2⟩ := cmp_zero ha
 obtain ⟨rfl, hb2⟩ := cmp_zero hb
 rw [gtT, gtT, hcv, hla, hlb]
 congr 1
 split
 ·split
  ·rfl
  ·rename_i hv
   split
   ·rename_i hfg
    obtain ⟨h1, h2⟩ := ha2 (by omega)
    obtain ⟨h3, h4⟩ := hb2 (by omega)
    rw [h1, h3]
    split
    ·rename_i hlm
     have key : ∀ (l l' m m' : List S30), (∀ x ∈ l, ∀ a' b b' : S30, cmpT x a' = 0 → cmpT b b' = 0 → gtT x b = gtT a' b') → l.length = l'.length → m.length = m'.length → cmpTs l l' = 0 → cmpTs m m' = 0 → gtTs l m = gtTs l' m' := by
      intro l
      induction l with
      | nil => intro l' m m' _ h1 _ _ _; cases l' with
       | nil => rw [gtTs, gtTs]
       | cons => simp at h1
      | cons x l ihl =>
       intro l' m m' h h1 h3 h2 h4
       cases l' with
       | nil => simp at h1
       | cons x' l' =>
        cases m with
        | nil => cases m' with
         | nil => rw [gtTs, gtTs]
         | cons => simp at h3
        | cons y m =>
         cases m' with
         | nil => simp at h3
         | cons y' m' =>
          rw [cmpTs] at h2 h4
          split at h2
          ·split at h4
           ·rename_i hx hy
            rw [gtTs, gtTs, ihl l' m m' (fun x hx => h x (by simp [hx])) (by simpa using h1) (by simpa using h3) h2 h4, h x (by simp) x' y y' hx hy]
            by_cases hxy : cmpT x y = 0
            ·rw [if_pos hxy, if_pos (eqv_trans (eqv_trans (eqv_symm hx) hxy) hy)]
            ·rw [if_neg hxy, if_neg (fun e => hxy (eqv_trans (eqv_trans hx e) (eqv_symm hy)))]
           ·contradiction
          ·contradiction
     exact key l l' m m' ih h1 h3 h2 h4
    ·rfl
   ·rfl
 ·rfl
end
section
theorem gtTs_trans : ∀ l m n : List S30, (∀ x ∈ l, ∀ y z, gtT x y = true → gtT y z = true → gtT x z = true) → gtTs l m = true → gtTs m n = true → gtTs l n = true
 | [], m, n, _, h, _ => by rw [gtTs] at h; cases h
 | _ :: _, [], n, _, h, _ => by rw [gtTs] at h; cases h
 | _ :: _, _ :: _, [], _, _, h => by rw [gtTs] at h; cases h
 | x :: l, y :: m, z :: n, ih, h1, h2 => by
  rw [gtTs] at h1 h2 ⊢
  by_cases hxy : cmpT x y = 0
  ·rw [if_pos hxy] at h1
   by_cases hyz : cmpT y z = 0
   ·rw [if_pos hyz] at h2
    rw [if_pos (eqv_trans hxy hyz)]
    exact gtTs_trans l m n (fun x hx => ih x (by simp [hx])) h1 h2
   ·rw [if_neg hyz] at h2
    rw [if_neg (fun e => hyz (eqv_trans (eqv_symm hxy) e)), gt_congr x y z z hxy (cmp_self z)]
    exact h2
  ·rw [if_neg hxy] at h1
   by_cases hyz : cmpT y z = 0
   ·rw [if_neg (fun e => hxy (eqv_trans e (eqv_symm hyz))), ← gt_congr x x y z (cmp_self x) hyz]
    exact h1
   ·rw [if_neg hyz] at h2
    have h3 := ih x (by simp) y z h1 h2
    rw [if_neg (gt_ne h3)]
    exact h3
theorem gt_trans : ∀ a b c : S30, gtT a b = true → gtT b c = true → gtT a c = true := by
 refine S30.ind ?_
 intro f l ih b c h1 h2
 obtain ⟨g, m⟩ := b
 obtain ⟨h, n⟩ := c
 have hl1 := gt_len h1
 have hl2 := gt_len h2
 rw [gtT, Bool.and_eq_true] at h1 h2
 rw [gtT, Bool.and_eq_true]
 refine ⟨?_, ?_⟩
 ·rw [covT_iff] at *
  intro x
  have e1 := h1.1 x
  have e2 := h2.1 x
  rw [netV_eq] at *
  split at e1 <;> rename_i hx
  ·rw [if_pos hx] at e2
   rw [if_pos hx]
   omega
  ·rw [if_neg hx]
   exact Int.le_refl _
 ·have p1 := h1.2
  have p2 := h2.2
  by_cases hn : (nodes ⟨f, l⟩).length = (nodes ⟨h, n⟩).length
  ·rw [if_pos hn]
   rw [if_pos (by omega)] at p1 p2
   by_cases v1 : f < 0 ∨ g < 0
   ·rw [if_pos v1] at p1; cases p1
   ·rw [if_neg v1] at p1
    by_cases v2 : g < 0 ∨ h < 0
    ·rw [if_pos v2] at p2; cases p2
    ·rw [if_neg v2] at p2
     rw [if_neg (by omega)]
     by_cases q1 : f = g
     ·subst q1
      rw [if_pos rfl] at p1
      by_cases q2 : f = h
      ·subst q2
       rw [if_pos rfl] at p2
       rw [if_pos rfl]
       by_cases r1 : l.length = m.length
       ·rw [if_pos r1] at p1
        by_cases r2 : m.length = n.length
        ·rw [if_pos r2] at p2
         rw [if_pos (by omega)]
         exact gtTs_trans l m n ih p1 p2
        ·rw [if_neg r2, decide_eq_true_eq] at p2
         rw [if_neg (by omega), decide_eq_true_eq]
         omega
       ·rw [if_neg r1, decide_eq_true_eq] at p1
        by_cases r2 : m.length = n.length
        ·rw [if_neg (by omega), decide_eq_true_eq]
         omega
        ·rw [if_neg r2, decide_eq_true_eq] at p2
         rw [if_neg (by omega), decide_eq_true_eq]
         omega
      ·rw [if_neg q2] at p2 ⊢
       exact p2
     ·rw [if_neg q1, decide_eq_true_eq] at p1
      by_cases q2 : g = h
      ·subst q2
       rw [if_neg q1, decide_eq_true_eq]
       exact p1
      ·rw [if_neg q2, decide_eq_true_eq] at p2
       rw [if_neg (by omega), decide_eq_true_eq]
       omega
  ·rw [if_neg hn, decide_eq_true_eq]
   omega
theorem gt_irrefl (a : S30) : gtT a a = false := gt_same (cmp_self a)
end
section
theorem same_iff {x y : S30} : sameT x y = true ↔ cmpT x y = 0 := by unfold sameT; exact beq_iff_eq
theorem same_refl (x : S30) : sameT x x = true := same_iff.2 (cmp_self x)
theorem same_symm {x y : S30} (h : sameT x y = true) : sameT y x = true := same_iff.2 (eqv_symm (same_iff.1 h))
theorem same_trans {x y z : S30} (h : sameT x y = true) (k : sameT y z = true) : sameT x z = true := same_iff.2 (eqv_trans (same_iff.1 h) (same_iff.1 k))
def cnt (l : List S30) (x : S30) : Nat := l.countP (sameT x)
theorem same_eq {x y : S30} (h : sameT x y = true) : sameT x = sameT y := by
 funext z
 rw [Bool.eq_iff_iff]
 exact ⟨fun k => same_trans (same_symm h) k, fun k => same_trans h k⟩
theorem cnt_congr {x y : S30} (h : sameT x y = true) (l : List S30) : cnt l x = cnt l y := by unfold cnt; rw [same_eq h]
theorem cnt_cons (l : List S30) (z x : S30) : cnt (z :: l) x = cnt l x + (if sameT x z = true then 1 else 0) := by unfold cnt; rw [List.countP_cons]
theorem cnt_append (l m : List S30) (x : S30) : cnt (l ++ m) x = cnt l x + cnt m x := List.countP_append
theorem cnt_pos {l : List S30} {x : S30} (h : 0 < cnt l x) : ∃ y ∈ l, sameT x y = true := by
 obtain ⟨y, h1, h2⟩ := List.countP_pos_iff.1 h
 exact ⟨y, h1, h2⟩
theorem cnt_mem {l : List S30} {x : S30} (h : x ∈ l) : 0 < cnt l x := List.countP_pos_iff.2 ⟨x, h, same_refl x⟩
theorem cnt_eraseP {l : List S30} {z : S30} : l.any (sameT z) = true → ∀ x, cnt (l.eraseP (sameT z)) x + (if sameT x z = true then 1 else 0) = cnt l x := by
 induction l with
 | nil => intro h; cases h
 | cons y l ih =>
  intro h x
  cases hy : sameT z y with
  | true =>
   rw [List.eraseP_cons, hy, cond_true, cnt_cons]
   have : (sameT x z = true) ↔ (sameT x y = true) := ⟨fun k => same_trans k hy, fun k => same_trans k (same_symm hy)⟩
   by_cases hx : sameT x z = true
   ·rw [if_pos hx, if_pos (this.1 hx)]
   ·rw [if_neg hx, if_neg (fun k => hx (this.2 k))]
  | false =>
   rw [List.any_cons, hy, Bool.false_or] at h
   rw [List.eraseP_cons, hy, cond_false, cnt_cons, cnt_cons]
   have := ih h x
   omega
theorem cnt_none {l : List S30} {z : S30} (h : l.any (sameT z) = false) {x : S30} (hx : sameT x z = true) : cnt l x = 0 := by
 rw [cnt_congr hx]
 unfold cnt
 rw [List.countP_eq_zero]
 rw [List.any_eq_false] at h
 exact h
theorem cnt_diff : ∀ (a b : List S30) (x : S30), cnt (diffT a b).1 x = cnt a x - cnt b x ∧ cnt (diffT a b).2 x = cnt b x - cnt a x
 | [], b, x => by simp [diffT, cnt]
 | z :: r, b, x => by
  rw [diffT, cnt_cons]
  cases hz : b.any (sameT z) with
  | true =>
   rw [if_pos rfl]
   have h1 := cnt_eraseP hz x
   obtain ⟨h2, h3⟩ := cnt_diff r (b.eraseP (sameT z)) x
   rw [h2, h3]
   split at h1 <;> rename_i hx <;> (first | rw [if_pos hx] | rw [if_neg hx]) <;> omega
  | false =>
   rw [if_neg (by decide)]
   obtain ⟨h2, h3⟩ := cnt_diff r b x
   rw [cnt_cons]
   show cnt (diffT r b).1 x + _ = _ ∧ cnt (diffT r b).2 x = _
   rw [h2, h3]
   by_cases hx : sameT x z = true
   ·rw [if_pos hx]
    have := cnt_none hz hx
    omega
   ·rw [if_neg hx]
    omega
def DM (a b : List S30) : Prop := (∃ x, cnt b x < cnt a x) ∧ ∀ y, cnt a y < cnt b y → ∃ x, gtT x y = true ∧ cnt b x < cnt a x
theorem multi_iff (a b : List S30) : multiT a b = true ↔ DM a b := by
 have h1 : ∀ x, x ∈ (diffT a b).1 → cnt b x < cnt a x := fun x hx => by have := cnt_mem hx; rw [(cnt_diff a b x).1] at this; omega
 have h2 : ∀ x, cnt b x < cnt a x → ∃ y ∈ (diffT a b).1, sameT x y = true := fun x hx => cnt_pos (by rw [(cnt_diff a b x).1]; omega)
 have h3 : ∀ x, x ∈ (diffT a b).2 → cnt a x < cnt b x := fun x hx => by have := cnt_mem hx; rw [(cnt_diff a b x).2] at this; omega
 have h4 : ∀ x, cnt a x < cnt b x → ∃ y ∈ (diffT a b).2, sameT x y = true := fun x hx => cnt_pos (by rw [(cnt_diff a b x).2]; omega)
 unfold multiT DM
 rw [Bool.and_eq_true, Bool.not_eq_true', Bool.not_eq_true', List.any_eq_false, List.isEmpty_eq_false_iff]
 constructor
 ·rintro ⟨k1, k2⟩
  refine ⟨?_, fun y hy => ?_⟩
  ·obtain ⟨x, hx⟩ := List.exists_mem_of_ne_nil _ k1
   exact ⟨x, h1 x hx⟩
  ·obtain ⟨y', hy', hs⟩ := h4 y hy
   have := k2 y' hy'
   rw [Bool.not_eq_true, Bool.not_eq_false', List.any_eq_true] at this
   obtain ⟨x, hx, hg⟩ := this
   exact ⟨x, by rw [gt_congr x x y y' (cmp_self x) (same_iff.1 hs)]; exact hg, h1 x hx⟩
 ·rintro ⟨⟨x, hx⟩, k2⟩
  refine ⟨?_, fun y hy => ?_⟩
  ·obtain ⟨x', hx', _⟩ := h2 x hx
   exact List.ne_nil_of_mem hx'
  ·obtain ⟨x, hg, hx⟩ := k2 y (h3 y hy)
   obtain ⟨x', hx', hs⟩ := h2 x hx
   rw [Bool.not_eq_true, Bool.not_eq_false', List.any_eq_true]
   exact ⟨x', hx', by rw [gt_congr x' x y y (eqv_symm (same_iff.1 hs)) (cmp_self y)]; exact hg⟩
theorem ex_max {α : Type} (r : α → α → Bool) (irr : ∀ x, r x x = false) (tr : ∀ x y z, r x y = true → r y z = true → r x z = true) (P : α → Prop) : ∀ L : List α, (∃ x ∈ L, P x) → ∃ x ∈ L, P x ∧ ∀ z ∈ L, P z → r z x = false := by
 intro L
 induction L with
 | nil => rintro ⟨x, hx, _⟩; cases hx
 | cons y L ih =>
  rintro ⟨x, hx, hp⟩
  by_cases h : ∃ x ∈ L, P x
  ·obtain ⟨m, hm, hpm, hmax⟩ := ih h
   by_cases hy : P y ∧ r y m = true
   ·refine ⟨y, by simp, hy.1, fun z hz hpz => ?_⟩
    rcases List.mem_cons.1 hz with rfl | hz
    ·exact irr _
    ·cases hr : r z y with
     | false => rfl
     | true => exact absurd (tr z y m hr hy.2) (by rw [hmax z hz hpz]; decide)
   ·refine ⟨m, List.mem_cons_of_mem _ hm, hpm, fun z hz hpz => ?_⟩
    rcases List.mem_cons.1 hz with rfl | hz
    ·cases hr : r z m with
     | false => rfl
     | true => exact absurd ⟨hpz, hr⟩ hy
    ·exact hmax z hz hpz
  ·have hxy : x = y := by
    rcases List.mem_cons.1 hx with e | e
    ·exact e
    ·exact absurd ⟨x, e, hp⟩ h
   subst hxy
   refine ⟨x, by simp, hp, fun z hz hpz => ?_⟩
   rcases List.mem_cons.1 hz with rfl | hz
   ·exact irr _
   ·exact absurd ⟨z, hz, hpz⟩ h
theorem DM_step {a b c : List S30} (h1 : DM a b) (h2 : DM b c) (Q : S30 → Prop) (hQ : ∀ x z, Q x → gtT z x = true → Q z) (hc : ∀ x z, sameT x z = true → Q x → Q z) (hex : ∃ x, Q x ∧ (cnt b x < cnt a x ∨ cnt c x < cnt b x)) : ∃ x, Q x ∧ cnt c x < cnt a x := by
 have inL : ∀ x, Q x → (cnt b x < cnt a x ∨ cnt c x < cnt b x) → ∃ y ∈ a ++ b, sameT x y = true ∧ Q y ∧ (cnt b y < cnt a y ∨ cnt c y < cnt b y) := by
  intro x hq hx
  have : ∃ y ∈ a ++ b, sameT x y = true := by
   rcases hx with hx | hx
   ·obtain ⟨y, hy, hs⟩ := cnt_pos (show 0 < cnt a x by omega)
    exact ⟨y, List.mem_append_left _ hy, hs⟩
   ·obtain ⟨y, hy, hs⟩ := cnt_pos (show 0 < cnt b x by omega)
    exact ⟨y, List.mem_append_right _ hy, hs⟩
  obtain ⟨y, hy, hs⟩ := this
  exact ⟨y, hy, hs, hc x y hs hq, by rw [← cnt_congr hs, ← cnt_congr hs, ← cnt_congr hs]; exact hx⟩
 obtain ⟨x0, hq0, hx0⟩ := hex
 obtain ⟨y0, hy0, _, hp0⟩ := inL x0 hq0 hx0
 obtain ⟨m, hm, ⟨hqm, hpm⟩, hmax⟩ := ex_max gtT gt_irrefl gt_trans (fun x => Q x ∧ (cnt b x < cnt a x ∨ cnt c x < cnt b x)) (a ++ b) ⟨y0, hy0, hp0⟩
 have no : ∀ z, gtT z m = true → (cnt b z < cnt a z ∨ cnt c z < cnt b z) → False := by
  intro z hg hz
  obtain ⟨y, hy, hs, hqy, hpy⟩ := inL z (hQ m z hqm hg) hz
  have := hmax y hy ⟨hqy, hpy⟩
  rw [gt_congr y z m m (eqv_symm (same_iff.1 hs)) (cmp_self m), hg] at this
  cases this
 refine ⟨m, hqm, ?_⟩
 have n1 : ¬ cnt a m < cnt b m := fun h => by
  obtain ⟨z, hg, hz⟩ := h1.2 m h
  exact no z hg (.inl hz)
 have n2 : ¬ cnt b m < cnt c m := fun h => by
  obtain ⟨z, hg, hz⟩ := h2.2 m h
  exact no z hg (.inr hz)
 omega
theorem DM_trans {a b c : List S30} (h1 : DM a b) (h2 : DM b c) : DM a c := by
 refine ⟨?_, fun y hy => ?_⟩
 ·obtain ⟨x, hx⟩ := h1.1
  obtain ⟨z, _, hz⟩ := DM_step h1 h2 (fun _ => True) (fun _ _ _ _ => trivial) (fun _ _ _ _ => trivial) ⟨x, trivial, .inl hx⟩
  exact ⟨z, hz⟩
 ·refine DM_step h1 h2 (fun x => gtT x y = true) (fun x z hx hz => gt_trans z x y hz hx) (fun x z hs hx => by rw [gt_congr z x y y (eqv_symm (same_iff.1 hs)) (cmp_self y)]; exact hx) ?_
  by_cases h : cnt a y < cnt b y
  ·obtain ⟨x, hg, hx⟩ := h1.2 y h
   exact ⟨x, hg, .inl hx⟩
  ·obtain ⟨x, hg, hx⟩ := h2.2 y (by omega)
   exact ⟨x, hg, .inr hx⟩
theorem multi_trans (a b c : List S30) (h1 : multiT a b = true) (h2 : multiT b c = true) : multiT a c = true := (multi_iff a c).2 (DM_trans ((multi_iff a b).1 h1) ((multi_iff b c).1 h2))
theorem multi_irrefl (a : List S30) : multiT a a = false := by
 cases h : multiT a a with
 | false => rfl
 | true => obtain ⟨x, hx⟩ := ((multi_iff a a).1 h).1; exact absurd hx (Nat.lt_irrefl _)
theorem multi_congr {a a' b b' : List S30} (ha : ∀ x, cnt a x = cnt a' x) (hb : ∀ x, cnt b x = cnt b' x) : multiT a b = multiT a' b' := by
 rw [Bool.eq_iff_iff, multi_iff, multi_iff]
 unfold DM
 simp only [ha, hb]
theorem multi_shared (a b z : List S30) : multiT (a ++ z) (b ++ z) = multiT a b := by
 rw [Bool.eq_iff_iff, multi_iff, multi_iff]
 unfold DM
 simp only [cnt_append]
 constructor
 ·rintro ⟨⟨x, h1⟩, h2⟩
  refine ⟨⟨x, by omega⟩, fun y hy => ?_⟩
  obtain ⟨x, g, hx⟩ := h2 y (by omega)
  exact ⟨x, g, by omega⟩
 ·rintro ⟨⟨x, h1⟩, h2⟩
  refine ⟨⟨x, by omega⟩, fun y hy => ?_⟩
  obtain ⟨x, g, hx⟩ := h2 y (by omega)
  exact ⟨x, g, by omega⟩
end
section
attribute [local go_sem] max2_int min2_int max_two min_two max_three min_three max_four min_four
def soritesref14_Terms.f (a0_0 : Bool) (a0_1 : Int) (l0_2 : List (S24)) (a0_3 : Int) (l0_4 : List (S24)) : Option ((List (S24))) := if a0_0 = true then (some (([(⟨a0_1, l0_2⟩ : S24), (⟨a0_1, l0_2⟩ : S24), (⟨a0_3, l0_4⟩ : S24), (⟨a0_3, l0_4⟩ : S24)] : List (S24)))) else (some (([(⟨a0_1, l0_2⟩ : S24), (⟨a0_3, l0_4⟩ : S24)] : List (S24))))
end
section
attribute [local go_sem] max2_int min2_int max_two min_two max_three min_three max_four min_four
mutual
def soritesref14_less.l0 : Nat → List (S24) → List (S24) → List Bool → List (S24) → Int → Option ((List (S24)))
 | 0, _, _, _, _, _ => none
 | k + 1, x0, x1, x5, x6, x7 => if x7 < (x0.length : Int) then (soritesref14_less.l1 k x0 x1 x5 x6 x7 false 0) else (some x6)
def soritesref14_less.l1 : Nat → List (S24) → List (S24) → List Bool → List (S24) → Int → Bool → Int → Option ((List (S24)))
 | 0, _, _, _, _, _, _, _ => none
 | k + 1, x0, x1, x5, x6, x7, x8, x9 => if x9 < (x1.length : Int) then (if x8 = true then (soritesref14_less.l1 k x0 x1 x5 x6 x7 x8 (wrap64 (x9 + 1))) else (if 0 ≤ x9 then (if x9 < (x5.length : Int) then (if rdOf false x5 x9 = true then (soritesref14_less.l1 k x0 x1 x5 x6 x7 x8 (wrap64 (x9 + 1))) else (if 0 ≤ x7 then (if x7 < (x0.length : Int) then ((soritesref06_Same.f k ((rd_T24 x0 x7).f0) ((rd_T24 x0 x7).f1) ((rd_T24 x1 x9).f0) ((rd_T24 x1 x9).f1)).bind fun t419 => (if t419 = true then (soritesref14_less.l1 k x0 x1 (x5.set (x9 : Int).toNat true) x6 x7 true (wrap64 (x9 + 1))) else (soritesref14_less.l1 k x0 x1 x5 x6 x7 x8 (wrap64 (x9 + 1))))) else (none)) else (none))) else (none)) else (none))) else (if x8 = true then (soritesref14_less.l0 k x0 x1 x5 x6 (wrap64 (x7 + 1))) else (if 0 ≤ x7 then (if x7 < (x0.length : Int) then (if x6.length < 4398046511104 then (soritesref14_less.l0 k x0 x1 x5 (x6 ++ [(⟨(rd_T24 x0 x7).f0, (rd_T24 x0 x7).f1⟩ : S24)]) (wrap64 (x7 + 1))) else (none)) else (none)) else (none)))
end
def soritesref14_less.f (k : Nat) (l0 : List (S24)) (l1 : List (S24)) : Option ((List (S24))) := if 0 ≤ (l1.length : Int) then (if ((l1.length : Int) : Int).toNat ≤ 281474976710656 then (soritesref14_less.l0 k l0 l1 (List.replicate ((l1.length : Int) : Int).toNat false) ([] : List (S24)) 0) else (none)) else (none)
end
section
attribute [local go_sem] max2_int min2_int max_two min_two max_three min_three max_four min_four
mutual
def soritesref14_Multi.l0 : Nat → List (S24) → List (S24) → Int → Option (Bool)
 | 0, _, _, _ => none
 | k + 1, x5, x6, x7 => if x7 < (x6.length : Int) then (soritesref14_Multi.l1 k x5 x6 x7 false 0) else (some (decide ((x5.length : Int) > 0)))
def soritesref14_Multi.l1 : Nat → List (S24) → List (S24) → Int → Bool → Int → Option (Bool)
 | 0, _, _, _, _, _ => none
 | k + 1, x5, x6, x7, x8, x9 => if x9 < (x5.length : Int) then (if x8 = true then (soritesref14_Multi.l1 k x5 x6 x7 true (wrap64 (x9 + 1))) else (if 0 ≤ x9 then (if 0 ≤ x7 then (if x7 < (x6.length : Int) then ((soritesref10_Greater.f k ((rd_T24 x5 x9).f0) ((rd_T24 x5 x9).f1) ((rd_T24 x6 x7).f0) ((rd_T24 x6 x7).f1)).bind fun t433 => (soritesref14_Multi.l1 k x5 x6 x7 t433 (wrap64 (x9 + 1)))) else (none)) else (none)) else (none))) else (if x8 = true then (soritesref14_Multi.l0 k x5 x6 (wrap64 (x7 + 1))) else (some false))
end
def soritesref14_Multi.f (k : Nat) (l0 : List (S24)) (l1 : List (S24)) : Option (Bool) := (soritesref14_less.f k l0 l1).bind fun t425 => ((soritesref14_less.f k l1 l0).bind fun t428 => (soritesref14_Multi.l0 k t425 t428 0))
end
section
attribute [local go_sem] max2_int min2_int max_two min_two max_three min_three max_four min_four
def soritesref14_Greater.f (k : Nat) (a0_0 : Bool) (a0_1 : Int) (l0_2 : List (S24)) (a0_3 : Int) (l0_4 : List (S24)) (a1_0 : Bool) (a1_1 : Int) (l1_2 : List (S24)) (a1_3 : Int) (l1_4 : List (S24)) : Option (Bool) := (soritesref14_Terms.f a0_0 a0_1 l0_2 a0_3 l0_4).bind fun t436 => ((soritesref14_Terms.f a1_0 a1_1 l1_2 a1_3 l1_4).bind fun t439 => ((soritesref14_Multi.f k t436 t439).bind fun t442 => (some t442)))
end
section
attribute [local go_sem] max2_int min2_int max_two min_two max_three min_three max_four min_four
def order_Terms.f (a0_0 : Bool) (a0_1 : Int) (l0_2 : List (S30)) (a0_3 : Int) (l0_4 : List (S30)) : Option ((List (S30))) := if a0_0 = true then (some (([(⟨a0_1, l0_2⟩ : S30), (⟨a0_1, l0_2⟩ : S30), (⟨a0_3, l0_4⟩ : S30), (⟨a0_3, l0_4⟩ : S30)] : List (S30)))) else (some (([(⟨a0_1, l0_2⟩ : S30), (⟨a0_3, l0_4⟩ : S30)] : List (S30))))
set_option maxHeartbeats 8000000 in
set_option maxRecDepth 100000 in
theorem order_Terms.calls (a0_0 : Bool) (a0_1 : Int) (P0_2_ : Nat → Prop) (A0_2 : Option Addr) (c0_2 : Nat) (l0_2 : List (S30)) (a0_3 : Int) (P0_4_ : Nat → Prop) (A0_4 : Option Addr) (c0_4 : Nat) (l0_4 : List (S30)) (r : List (S30)) (w : World) (hs0_2 : Kd.V k30 30 w w.heap.size (fun k_ => P0_2_ k_) (.slice A0_2 l0_2.length c0_2) l0_2) (hs0_4 : Kd.V k30 30 w w.heap.size (fun k_ => P0_4_ k_) (.slice A0_4 l0_4.length c0_4) l0_4) (h : order_Terms.f a0_0 a0_1 l0_2 a0_3 l0_4 = some r) :
  Calls Try.prog 63 #[.agg #[.bool a0_0, .int .i64 a0_1, .slice A0_2 l0_2.length c0_2, .int .i64 a0_3, .slice A0_4 l0_4.length c0_4]] w fun e w' => ∃ v0_ : Value, e = .returned (v0_) ∧ Kd.N k30 30 w' w.heap.size (fun k_ => ((P0_2_ k_ ∨ P0_4_ k_) ∨ w.heap.size ≤ k_)) v0_ r ∧ Below w.heap.size w w' := by
 have hu78 := Try.underlying78
 have hu30 := Try.underlying30
 have HO0_2 := Az_.mk (show Kd.V k30 30 w w.heap.size (fun k_ => ((P0_2_ k_ ∨ P0_4_ k_) ∨ w.heap.size ≤ k_)) (.slice A0_2 l0_2.length c0_2) l0_2 from Kd.V_mono hs0_2 (fun k_ hk => .inl (.inl hk)))
 have HO0_4 := Az_.mk (show Kd.V k30 30 w w.heap.size (fun k_ => ((P0_2_ k_ ∨ P0_4_ k_) ∨ w.heap.size ≤ k_)) (.slice A0_4 l0_4.length c0_4) l0_4 from Kd.V_mono hs0_4 (fun k_ hk => .inl (.inr hk)))
 have HB := Az_.mk (Below.refl w.heap.size w)
 have H : (if a0_0 = true then (some (([(⟨a0_1, l0_2⟩ : S30), (⟨a0_1, l0_2⟩ : S30), (⟨a0_3, l0_4⟩ : S30), (⟨a0_3, l0_4⟩ : S30)] : List (S30)))) else (some (([(⟨a0_1, l0_2⟩ : S30), (⟨a0_3, l0_4⟩ : S30)] : List (S30))))) = some r := h
 clear h
 by_cases c2 : a0_0 = true
 ·subst c2
  have H1 : (some (([(⟨a0_1, l0_2⟩ : S30), (⟨a0_1, l0_2⟩ : S30), (⟨a0_3, l0_4⟩ : S30), (⟨a0_3, l0_4⟩ : S30)] : List (S30)))) = some r := by rw [if_pos rfl] at H; exact H
  clear H
  have H := H1
  clear H1
  obtain ⟨y485, hy485⟩ : ∃ y_ : List (S30), y_ = (([(⟨a0_1, l0_2⟩ : S30), (⟨a0_1, l0_2⟩ : S30), (⟨a0_3, l0_4⟩ : S30), (⟨a0_3, l0_4⟩ : S30)] : List (S30))) := ⟨_, rfl⟩
  replace H : (some y485) = some r := by first | (rw [hy485]; with_reducible exact H) | (have H2_ := (Option.bind_some _ _).symm.trans H; rw [hy485]; with_reducible exact H2_) | (have H2_ := (Option.bind_some _ _).symm.trans H; with_reducible exact H2_) | with_reducible exact H | (rw [hy485]; exact H) | exact H
  have Ny485 := Az_.mk hy485
  clear hy485
  obtain rfl := Option.some.inj H
  go_enter Try.func63, Try.ntmps63
  go_wp2_with (first | ((with_reducible refine yak_ (N := 1) rfl ?_); refine yaj_ ?hg (N := 1) ?hd (cs := #[.bool true, .int .i64 a0_1, .slice A0_2 l0_2.length c0_2, .int .i64 a0_3, .slice A0_4 l0_4.length c0_4]) (t := 78) ?hr ?_; (case hd => rfl); (case hg => rfl); (case hr => first | (go_simp; done) | (go_simp; rfl)); intro gb484 hg w3 hbox hb; have n0_ := Az_.mk (Kd.V_below (Kd.V_elderB (by (with_reducible repeat (first | apply Kd.V_alloc | apply Kd.V_drewN | apply Kd.V_drew)); exact HO0_2.out) gb484 (Nat.le_of_eq hg.symm)) hb); have n1_ := Az_.mk (Kd.V_below (Kd.V_elderB (by (with_reducible repeat (first | apply Kd.V_alloc | apply Kd.V_drewN | apply Kd.V_drew)); exact HO0_4.out) gb484 (Nat.le_of_eq hg.symm)) hb); have n2_ := Az_.mk (bT_ (by repeat (first | (with_reducible first | exact HB.out | apply bA_ | apply bN_ | apply bD_) | exact HB.out)) hb); have n3_ := Az_.mk (hbox); have n4_ := Az_.mk ((by rw [hg]; exact (bZ_ (by repeat (first | (with_reducible first | exact HB.out | apply bA_ | apply bN_ | apply bD_) | exact HB.out))) : w.heap.size ≤ gb484)); have n5_ := Az_.mk ((by rw [hg]; exact (bZ_ (by repeat (first | (with_reducible first | exact HB.out | apply bA_ | apply bN_ | apply bD_) | exact HB.out))) : w.heap.size ≤ gb484)); clear HO0_2; clear HO0_4; clear HB; have HO0_2 := n0_; have HO0_4 := n1_; have HB := n2_; have BK484 := n3_; have GW484 := n4_; have GE484 := n5_; clear n0_ n1_ n2_ n3_ n4_ n5_; clear hb hbox hg; have hcz4_0 : w3.cell? ⟨gb484, 0, none⟩ = some (.bool true) := (yaa_ BK484.out 0).trans rfl; have hcz4_1 : w3.cell? ⟨gb484, 1, none⟩ = some (.int .i64 a0_1) := (yaa_ BK484.out 1).trans rfl; have hcz4_2 : w3.cell? ⟨gb484, 2, none⟩ = some (.slice A0_2 l0_2.length c0_2) := (yaa_ BK484.out 2).trans rfl; have hcz4_3 : w3.cell? ⟨gb484, 3, none⟩ = some (.int .i64 a0_3) := (yaa_ BK484.out 3).trans rfl; have hcz4_4 : w3.cell? ⟨gb484, 4, none⟩ = some (.slice A0_4 l0_4.length c0_4) := (yaa_ BK484.out 4).trans rfl; have hfz4_0 := yab_ BK484.out 0; have hfz4_1 := yab_ BK484.out 1; have hfz4_2 := yab_ BK484.out 2; have hfz4_3 := yab_ BK484.out 3; have hfz4_4 := yab_ BK484.out 4) | ((with_reducible refine yak_ (N := 13) rfl ?_); refine Kd.N_lit k30 _ 30 ?hg (N' := 13) ?hd (xs := ([(⟨a0_1, l0_2⟩ : S30), (⟨a0_1, l0_2⟩ : S30), (⟨a0_3, l0_4⟩ : S30), (⟨a0_3, l0_4⟩ : S30)] : List (S30))) (inner := [.int .i64 a0_1, .slice A0_2 l0_2.length c0_2, .int .i64 a0_1, .slice A0_2 l0_2.length c0_2, .int .i64 a0_3, .slice A0_4 l0_4.length c0_4, .int .i64 a0_3, .slice A0_4 l0_4.length c0_4]) (ok := (fun k_ => ((P0_2_ k_ ∨ P0_4_ k_) ∨ w.heap.size ≤ k_) ∧ k_ ≠ gb484)) (okp := (fun k_ => ((P0_2_ k_ ∨ P0_4_ k_) ∨ w.heap.size ≤ k_) ∧ k_ ≠ gb484)) ?hr ?hp (fun _ hk => hk) ((show ∀ k_, w3.heap.size ≤ k_ → (fun k_ => ((P0_2_ k_ ∨ P0_4_ k_) ∨ w.heap.size ≤ k_) ∧ k_ ≠ gb484) k_ from fun k_ hk => ⟨(.inr (Nat.le_trans (bZ_ (by repeat (first | (with_reducible first | exact HB.out | apply bA_ | apply bN_ | apply bD_ | refine bS_ ?_ GE484.out) | exact HB.out))) hk)), Kd.freshB (g := gb484) (o := .cells #[.bool true, .int .i64 a0_1, .slice A0_2 l0_2.length c0_2, .int .i64 a0_3, .slice A0_4 l0_4.length c0_4] 78 (0, 0)) (by (with_reducible repeat (first | refine kN_ ?_ _ | refine kD_ ?_ | refine kA_ ?_ _)); exact BK484.out) k_ hk⟩) _ (Nat.le_refl _)) (Below.refl _ _) (Nat.le_refl _) (by simp) ?_; (case hd => rfl); (case hg => rfl); (case hr => first | (go_simp; done) | (go_simp; rfl)); (case hp => exact (Reps.c2 (show Kd.FK k30 _ _ (⟨a0_1, l0_2⟩ : S30) [.int .i64 a0_1, .slice A0_2 l0_2.length c0_2] from (k30_mkF _ _ (⟨a0_1, l0_2⟩ : S30) (Kd.V_reads' (Kd.V_mono (ok' := (fun k_ => ((P0_2_ k_ ∨ P0_4_ k_) ∨ w.heap.size ≤ k_) ∧ k_ ≠ gb484)) (HO0_2.out) (fun k_ hk => ⟨hk.1, hk.2⟩))).2.1 (Kd.V_F (Kd.V_mono (ok' := (fun k_ => ((P0_2_ k_ ∨ P0_4_ k_) ∨ w.heap.size ≤ k_) ∧ k_ ≠ gb484)) (HO0_2.out) (fun k_ hk => ⟨hk.1, hk.2⟩))))) (Reps.c2 (show Kd.FK k30 _ _ (⟨a0_1, l0_2⟩ : S30) [.int .i64 a0_1, .slice A0_2 l0_2.length c0_2] from (k30_mkF _ _ (⟨a0_1, l0_2⟩ : S30) (Kd.V_reads' (Kd.V_mono (ok' := (fun k_ => ((P0_2_ k_ ∨ P0_4_ k_) ∨ w.heap.size ≤ k_) ∧ k_ ≠ gb484)) (HO0_2.out) (fun k_ hk => ⟨hk.1, hk.2⟩))).2.1 (Kd.V_F (Kd.V_mono (ok' := (fun k_ => ((P0_2_ k_ ∨ P0_4_ k_) ∨ w.heap.size ≤ k_) ∧ k_ ≠ gb484)) (HO0_2.out) (fun k_ hk => ⟨hk.1, hk.2⟩))))) (Reps.c2 (show Kd.FK k30 _ _ (⟨a0_3, l0_4⟩ : S30) [.int .i64 a0_3, .slice A0_4 l0_4.length c0_4] from (k30_mkF _ _ (⟨a0_3, l0_4⟩ : S30) (Kd.V_reads' (Kd.V_mono (ok' := (fun k_ => ((P0_2_ k_ ∨ P0_4_ k_) ∨ w.heap.size ≤ k_) ∧ k_ ≠ gb484)) (HO0_4.out) (fun k_ hk => ⟨hk.1, hk.2⟩))).2.1 (Kd.V_F (Kd.V_mono (ok' := (fun k_ => ((P0_2_ k_ ∨ P0_4_ k_) ∨ w.heap.size ≤ k_) ∧ k_ ≠ gb484)) (HO0_4.out) (fun k_ hk => ⟨hk.1, hk.2⟩))))) (Reps.c2 (show Kd.FK k30 _ _ (⟨a0_3, l0_4⟩ : S30) [.int .i64 a0_3, .slice A0_4 l0_4.length c0_4] from (k30_mkF _ _ (⟨a0_3, l0_4⟩ : S30) (Kd.V_reads' (Kd.V_mono (ok' := (fun k_ => ((P0_2_ k_ ∨ P0_4_ k_) ∨ w.heap.size ≤ k_) ∧ k_ ≠ gb484)) (HO0_4.out) (fun k_ hk => ⟨hk.1, hk.2⟩))).2.1 (Kd.V_F (Kd.V_mono (ok' := (fun k_ => ((P0_2_ k_ ∨ P0_4_ k_) ∨ w.heap.size ≤ k_) ∧ k_ ≠ gb484)) (HO0_4.out) (fun k_ hk => ⟨hk.1, hk.2⟩))))) (Reps.none _ _)))))); intro v486 w5 ho6 hb hg_ hnew_; clear hg_ hnew_; (first | rw [← Ny485.out] at ho6 | (simp only [Int.reduceToNat] at ho6; rw [← Ny485.out] at ho6)); have n0_ := Az_.mk (Kd.V_elder' (by (with_reducible repeat (first | apply Kd.V_alloc | apply Kd.V_drewN | apply Kd.V_drew)); exact HO0_2.out) (Kd.N_base ho6) hb); have n1_ := Az_.mk (Kd.V_elder' (by (with_reducible repeat (first | apply Kd.V_alloc | apply Kd.V_drewN | apply Kd.V_drew)); exact HO0_4.out) (Kd.N_base ho6) hb); have n2_ := Az_.mk (Kd.N_lower ho6 (bZ_ (by repeat (first | (with_reducible first | exact HB.out | apply bA_ | apply bN_ | apply bD_ | refine bS_ ?_ GE484.out) | exact HB.out)))); have n3_ := Az_.mk (kB_ (g := gb484) (o := .cells #[.bool true, .int .i64 a0_1, .slice A0_2 l0_2.length c0_2, .int .i64 a0_3, .slice A0_4 l0_4.length c0_4] 78 (0, 0)) (by (with_reducible repeat (first | refine kN_ ?_ _ | refine kD_ ?_ | refine kA_ ?_ _)); exact BK484.out) hb); have n4_ := Az_.mk (bT_ (by repeat (first | (with_reducible first | exact HB.out | apply bA_ | apply bN_ | apply bD_ | refine bS_ ?_ GE484.out) | exact HB.out)) hb); clear HO0_2; clear HO0_4; clear BK484; clear HB; have HO0_2 := n0_; have HO0_4 := n1_; have HO487 := n2_; have BK484 := n3_; have HB := n4_; clear n0_ n1_ n2_ n3_ n4_; clear hb ho6))
  go_ret
  exact ⟨_, by first | rfl | (simp [yag_, yaf_] <;> rfl) | (simp [*, yag_, yaf_] <;> rfl), by (with_reducible repeat (first | apply Kd.N_alloc | apply Kd.N_drewN | apply Kd.N_drew)); exact Kd.N_mono HO487.out (fun _ hk => hk.1), by repeat (first | (with_reducible first | exact HB.out | apply bA_ | apply bN_ | apply bD_ | refine bS_ ?_ GE484.out) | exact HB.out)⟩
 ·replace c2 := Bool.eq_false_iff.mpr c2
  subst c2
  have H1 : (some (([(⟨a0_1, l0_2⟩ : S30), (⟨a0_3, l0_4⟩ : S30)] : List (S30)))) = some r := by rw [if_neg (show ¬ (false = true) by decide)] at H; exact H
  clear H
  have H := H1
  clear H1
  obtain ⟨y488, hy488⟩ : ∃ y_ : List (S30), y_ = (([(⟨a0_1, l0_2⟩ : S30), (⟨a0_3, l0_4⟩ : S30)] : List (S30))) := ⟨_, rfl⟩
  replace H : (some y488) = some r := by first | (rw [hy488]; with_reducible exact H) | (have H2_ := (Option.bind_some _ _).symm.trans H; rw [hy488]; with_reducible exact H2_) | (have H2_ := (Option.bind_some _ _).symm.trans H; with_reducible exact H2_) | with_reducible exact H | (rw [hy488]; exact H) | exact H
  have Ny488 := Az_.mk hy488
  clear hy488
  obtain rfl := Option.some.inj H
  go_enter Try.func63, Try.ntmps63
  go_wp2_with (first | ((with_reducible refine yak_ (N := 1) rfl ?_); refine yaj_ ?hg (N := 1) ?hd (cs := #[.bool false, .int .i64 a0_1, .slice A0_2 l0_2.length c0_2, .int .i64 a0_3, .slice A0_4 l0_4.length c0_4]) (t := 78) ?hr ?_; (case hd => rfl); (case hg => rfl); (case hr => first | (go_simp; done) | (go_simp; rfl)); intro gb484 hg w7 hbox hb; have n0_ := Az_.mk (Kd.V_below (Kd.V_elderB (by (with_reducible repeat (first | apply Kd.V_alloc | apply Kd.V_drewN | apply Kd.V_drew)); exact HO0_2.out) gb484 (Nat.le_of_eq hg.symm)) hb); have n1_ := Az_.mk (Kd.V_below (Kd.V_elderB (by (with_reducible repeat (first | apply Kd.V_alloc | apply Kd.V_drewN | apply Kd.V_drew)); exact HO0_4.out) gb484 (Nat.le_of_eq hg.symm)) hb); have n2_ := Az_.mk (bT_ (by repeat (first | (with_reducible first | exact HB.out | apply bA_ | apply bN_ | apply bD_) | exact HB.out)) hb); have n3_ := Az_.mk (hbox); have n4_ := Az_.mk ((by rw [hg]; exact (bZ_ (by repeat (first | (with_reducible first | exact HB.out | apply bA_ | apply bN_ | apply bD_) | exact HB.out))) : w.heap.size ≤ gb484)); have n5_ := Az_.mk ((by rw [hg]; exact (bZ_ (by repeat (first | (with_reducible first | exact HB.out | apply bA_ | apply bN_ | apply bD_) | exact HB.out))) : w.heap.size ≤ gb484)); clear HO0_2; clear HO0_4; clear HB; have HO0_2 := n0_; have HO0_4 := n1_; have HB := n2_; have BK484 := n3_; have GW484 := n4_; have GE484 := n5_; clear n0_ n1_ n2_ n3_ n4_ n5_; clear hb hbox hg; have hcz8_0 : w7.cell? ⟨gb484, 0, none⟩ = some (.bool false) := (yaa_ BK484.out 0).trans rfl; have hcz8_1 : w7.cell? ⟨gb484, 1, none⟩ = some (.int .i64 a0_1) := (yaa_ BK484.out 1).trans rfl; have hcz8_2 : w7.cell? ⟨gb484, 2, none⟩ = some (.slice A0_2 l0_2.length c0_2) := (yaa_ BK484.out 2).trans rfl; have hcz8_3 : w7.cell? ⟨gb484, 3, none⟩ = some (.int .i64 a0_3) := (yaa_ BK484.out 3).trans rfl; have hcz8_4 : w7.cell? ⟨gb484, 4, none⟩ = some (.slice A0_4 l0_4.length c0_4) := (yaa_ BK484.out 4).trans rfl; have hfz8_0 := yab_ BK484.out 0; have hfz8_1 := yab_ BK484.out 1; have hfz8_2 := yab_ BK484.out 2; have hfz8_3 := yab_ BK484.out 3; have hfz8_4 := yab_ BK484.out 4) | ((with_reducible refine yak_ (N := 18) rfl ?_); refine Kd.N_lit k30 _ 30 ?hg (N' := 18) ?hd (xs := ([(⟨a0_1, l0_2⟩ : S30), (⟨a0_3, l0_4⟩ : S30)] : List (S30))) (inner := [.int .i64 a0_1, .slice A0_2 l0_2.length c0_2, .int .i64 a0_3, .slice A0_4 l0_4.length c0_4]) (ok := (fun k_ => ((P0_2_ k_ ∨ P0_4_ k_) ∨ w.heap.size ≤ k_) ∧ k_ ≠ gb484)) (okp := (fun k_ => ((P0_2_ k_ ∨ P0_4_ k_) ∨ w.heap.size ≤ k_) ∧ k_ ≠ gb484)) ?hr ?hp (fun _ hk => hk) ((show ∀ k_, w7.heap.size ≤ k_ → (fun k_ => ((P0_2_ k_ ∨ P0_4_ k_) ∨ w.heap.size ≤ k_) ∧ k_ ≠ gb484) k_ from fun k_ hk => ⟨(.inr (Nat.le_trans (bZ_ (by repeat (first | (with_reducible first | exact HB.out | apply bA_ | apply bN_ | apply bD_ | refine bS_ ?_ GE484.out) | exact HB.out))) hk)), Kd.freshB (g := gb484) (o := .cells #[.bool false, .int .i64 a0_1, .slice A0_2 l0_2.length c0_2, .int .i64 a0_3, .slice A0_4 l0_4.length c0_4] 78 (0, 0)) (by (with_reducible repeat (first | refine kN_ ?_ _ | refine kD_ ?_ | refine kA_ ?_ _)); exact BK484.out) k_ hk⟩) _ (Nat.le_refl _)) (Below.refl _ _) (Nat.le_refl _) (by simp) ?_; (case hd => rfl); (case hg => rfl); (case hr => first | (go_simp; done) | (go_simp; rfl)); (case hp => exact (Reps.c2 (show Kd.FK k30 _ _ (⟨a0_1, l0_2⟩ : S30) [.int .i64 a0_1, .slice A0_2 l0_2.length c0_2] from (k30_mkF _ _ (⟨a0_1, l0_2⟩ : S30) (Kd.V_reads' (Kd.V_mono (ok' := (fun k_ => ((P0_2_ k_ ∨ P0_4_ k_) ∨ w.heap.size ≤ k_) ∧ k_ ≠ gb484)) (HO0_2.out) (fun k_ hk => ⟨hk.1, hk.2⟩))).2.1 (Kd.V_F (Kd.V_mono (ok' := (fun k_ => ((P0_2_ k_ ∨ P0_4_ k_) ∨ w.heap.size ≤ k_) ∧ k_ ≠ gb484)) (HO0_2.out) (fun k_ hk => ⟨hk.1, hk.2⟩))))) (Reps.c2 (show Kd.FK k30 _ _ (⟨a0_3, l0_4⟩ : S30) [.int .i64 a0_3, .slice A0_4 l0_4.length c0_4] from (k30_mkF _ _ (⟨a0_3, l0_4⟩ : S30) (Kd.V_reads' (Kd.V_mono (ok' := (fun k_ => ((P0_2_ k_ ∨ P0_4_ k_) ∨ w.heap.size ≤ k_) ∧ k_ ≠ gb484)) (HO0_4.out) (fun k_ hk => ⟨hk.1, hk.2⟩))).2.1 (Kd.V_F (Kd.V_mono (ok' := (fun k_ => ((P0_2_ k_ ∨ P0_4_ k_) ∨ w.heap.size ≤ k_) ∧ k_ ≠ gb484)) (HO0_4.out) (fun k_ hk => ⟨hk.1, hk.2⟩))))) (Reps.none _ _)))); intro v489 w9 ho10 hb hg_ hnew_; clear hg_ hnew_; (first | rw [← Ny488.out] at ho10 | (simp only [Int.reduceToNat] at ho10; rw [← Ny488.out] at ho10)); have n0_ := Az_.mk (Kd.V_elder' (by (with_reducible repeat (first | apply Kd.V_alloc | apply Kd.V_drewN | apply Kd.V_drew)); exact HO0_2.out) (Kd.N_base ho10) hb); have n1_ := Az_.mk (Kd.V_elder' (by (with_reducible repeat (first | apply Kd.V_alloc | apply Kd.V_drewN | apply Kd.V_drew)); exact HO0_4.out) (Kd.N_base ho10) hb); have n2_ := Az_.mk (Kd.N_lower ho10 (bZ_ (by repeat (first | (with_reducible first | exact HB.out | apply bA_ | apply bN_ | apply bD_ | refine bS_ ?_ GE484.out) | exact HB.out)))); have n3_ := Az_.mk (kB_ (g := gb484) (o := .cells #[.bool false, .int .i64 a0_1, .slice A0_2 l0_2.length c0_2, .int .i64 a0_3, .slice A0_4 l0_4.length c0_4] 78 (0, 0)) (by (with_reducible repeat (first | refine kN_ ?_ _ | refine kD_ ?_ | refine kA_ ?_ _)); exact BK484.out) hb); have n4_ := Az_.mk (bT_ (by repeat (first | (with_reducible first | exact HB.out | apply bA_ | apply bN_ | apply bD_ | refine bS_ ?_ GE484.out) | exact HB.out)) hb); clear HO0_2; clear HO0_4; clear BK484; clear HB; have HO0_2 := n0_; have HO0_4 := n1_; have HO490 := n2_; have BK484 := n3_; have HB := n4_; clear n0_ n1_ n2_ n3_ n4_; clear hb ho10))
  go_ret
  exact ⟨_, by first | rfl | (simp [yag_, yaf_] <;> rfl) | (simp [*, yag_, yaf_] <;> rfl), by (with_reducible repeat (first | apply Kd.N_alloc | apply Kd.N_drewN | apply Kd.N_drew)); exact Kd.N_mono HO490.out (fun _ hk => hk.1), by repeat (first | (with_reducible first | exact HB.out | apply bA_ | apply bN_ | apply bD_ | refine bS_ ?_ GE484.out) | exact HB.out)⟩
end
section
attribute [local go_sem] max2_int min2_int max_two min_two max_three min_three max_four min_four
def order_Greater.f (a0_0 : Bool) (a0_1 : Int) (l0_2 : List (S30)) (a0_3 : Int) (l0_4 : List (S30)) (a1_0 : Bool) (a1_1 : Int) (l1_2 : List (S30)) (a1_3 : Int) (l1_4 : List (S30)) : Option (Bool) := (order_Terms.f a0_0 a0_1 l0_2 a0_3 l0_4).bind fun t502 => ((order_Terms.f a1_0 a1_1 l1_2 a1_3 l1_4).bind fun t505 => ((order_Multi.f t502 t505).bind fun t508 => (some t508)))
set_option maxHeartbeats 8000000 in
set_option maxRecDepth 100000 in
theorem order_Greater.calls (a0_0 : Bool) (a0_1 : Int) (A0_2 : Option Addr) (c0_2 : Nat) (l0_2 : List (S30)) (a0_3 : Int) (A0_4 : Option Addr) (c0_4 : Nat) (l0_4 : List (S30)) (a1_0 : Bool) (a1_1 : Int) (A1_2 : Option Addr) (c1_2 : Nat) (l1_2 : List (S30)) (a1_3 : Int) (A1_4 : Option Addr) (c1_4 : Nat) (l1_4 : List (S30)) (r : Bool) (w : World) (hr0_2 : Kd.C k30 w A0_2 l0_2.length l0_2) (hc0_2 : l0_2.length ≤ c0_2) (hr0_4 : Kd.C k30 w A0_4 l0_4.length l0_4) (hc0_4 : l0_4.length ≤ c0_4) (hr1_2 : Kd.C k30 w A1_2 l1_2.length l1_2) (hc1_2 : l1_2.length ≤ c1_2) (hr1_4 : Kd.C k30 w A1_4 l1_4.length l1_4) (hc1_4 : l1_4.length ≤ c1_4) (h : order_Greater.f a0_0 a0_1 l0_2 a0_3 l0_4 a1_0 a1_1 l1_2 a1_3 l1_4 = some r) :
  Calls Try.prog 66 #[.agg #[.bool a0_0, .int .i64 a0_1, .slice A0_2 l0_2.length c0_2, .int .i64 a0_3, .slice A0_4 l0_4.length c0_4], .agg #[.bool a1_0, .int .i64 a1_1, .slice A1_2 l1_2.length c1_2, .int .i64 a1_3, .slice A1_4 l1_4.length c1_4]] w fun e w' => e = .returned (.bool r) ∧ Below w.heap.size w w' := by
 have hu78 := Try.underlying78
 have HR0_2 := Az_.mk hr0_2
 have HC0_2 := Az_.mk hc0_2
 clear hr0_2 hc0_2
 have HR0_4 := Az_.mk hr0_4
 have HC0_4 := Az_.mk hc0_4
 clear hr0_4 hc0_4
 have HR1_2 := Az_.mk hr1_2
 have HC1_2 := Az_.mk hc1_2
 clear hr1_2 hc1_2
 have HR1_4 := Az_.mk hr1_4
 have HC1_4 := Az_.mk hc1_4
 clear hr1_4 hc1_4
 have HB := Az_.mk (Below.refl w.heap.size w)
 have H : ((order_Terms.f a0_0 a0_1 l0_2 a0_3 l0_4).bind fun t502 => ((order_Terms.f a1_0 a1_1 l1_2 a1_3 l1_4).bind fun t505 => ((order_Multi.f t502 t505).bind fun t508 => (some t508)))) = some r := h
 clear h
 replace H := Option.bind_eq_some_iff.mp H
 obtain ⟨t502, A30, H⟩ := H
 replace H : ((order_Terms.f a1_0 a1_1 l1_2 a1_3 l1_4).bind fun t505 => ((order_Multi.f t502 t505).bind fun t508 => (some t508))) = some r := H
 have A3 := Az_.mk A30
 clear A30
 replace H := Option.bind_eq_some_iff.mp H
 obtain ⟨t505, A40, H⟩ := H
 replace H : ((order_Multi.f t502 t505).bind fun t508 => (some t508)) = some r := H
 have A4 := Az_.mk A40
 clear A40
 replace H := Option.bind_eq_some_iff.mp H
 obtain ⟨t508, A50, H⟩ := H
 replace H : (some t508) = some r := H
 have A5 := Az_.mk A50
 clear A50
 obtain rfl := Option.some.inj H
 go_enter Try.func66, Try.ntmps66
 try go_wp2_with (first | ((with_reducible refine yak_ (N := 2) rfl ?_); refine yaj_ ?hg (N := 2) ?hd (cs := #[.bool a0_0, .int .i64 a0_1, .slice A0_2 l0_2.length c0_2, .int .i64 a0_3, .slice A0_4 l0_4.length c0_4]) (t := 78) ?hr ?_; (case hd => rfl); (case hg => rfl); (case hr => first | (go_simp; done) | (go_simp; rfl)); intro gb500 hg w6 hbox hb; have n0_ := Az_.mk (bT_ (by repeat (first | (with_reducible first | exact HB.out | apply bA_ | apply bN_ | apply bD_) | exact HB.out)) hb); have n1_ := Az_.mk (hbox); have n2_ := Az_.mk ((by rw [hg]; exact (bZ_ (by repeat (first | (with_reducible first | exact HB.out | apply bA_ | apply bN_ | apply bD_) | exact HB.out))) : w.heap.size ≤ gb500)); have n3_ := Az_.mk ((by rw [hg]; exact (bZ_ (by repeat (first | (with_reducible first | exact HB.out | apply bA_ | apply bN_ | apply bD_) | exact HB.out))) : w.heap.size ≤ gb500)); clear HB; have HB := n0_; have BK500 := n1_; have GW500 := n2_; have GE500 := n3_; clear n0_ n1_ n2_ n3_; clear hb hbox hg) | ((with_reducible refine yak_ (N := 3) rfl ?_); refine yaj_ ?hg (N := 3) ?hd (cs := #[.bool a1_0, .int .i64 a1_1, .slice A1_2 l1_2.length c1_2, .int .i64 a1_3, .slice A1_4 l1_4.length c1_4]) (t := 78) ?hr ?_; (case hd => rfl); (case hg => rfl); (case hr => first | (go_simp; done) | (go_simp; rfl)); intro gb501 hg w7 hbox hb; have n0_ := Az_.mk (kB_ (g := gb500) (o := .cells #[.bool a0_0, .int .i64 a0_1, .slice A0_2 l0_2.length c0_2, .int .i64 a0_3, .slice A0_4 l0_4.length c0_4] 78 (0, 0)) (by (with_reducible repeat (first | refine kN_ ?_ _ | refine kD_ ?_ | refine kA_ ?_ _)); exact BK500.out) hb); have n1_ := Az_.mk (bT_ (by repeat (first | (with_reducible first | exact HB.out | apply bA_ | apply bN_ | apply bD_ | refine bS_ ?_ GE500.out) | exact HB.out)) hb); have n2_ := Az_.mk (hbox); have n3_ := Az_.mk ((by rw [hg]; exact (bZ_ (by repeat (first | (with_reducible first | exact HB.out | apply bA_ | apply bN_ | apply bD_ | refine bS_ ?_ GE500.out) | exact HB.out))) : w.heap.size ≤ gb501)); have n4_ := Az_.mk ((by rw [hg]; exact (bZ_ (by repeat (first | (with_reducible first | exact HB.out | apply bA_ | apply bN_ | apply bD_ | refine bS_ ?_ GE500.out) | exact HB.out))) : w.heap.size ≤ gb501)); have n5_ := Az_.mk ((by rw [hg]; exact Nat.ne_of_lt (blk_lt (g := gb500) (o := .cells #[.bool a0_0, .int .i64 a0_1, .slice A0_2 l0_2.length c0_2, .int .i64 a0_3, .slice A0_4 l0_4.length c0_4] 78 (0, 0)) (by (with_reducible repeat (first | refine kN_ ?_ _ | refine kD_ ?_ | refine kA_ ?_ _)); exact BK500.out)) : gb500 ≠ gb501)); have n6_ := Az_.mk ((by rw [hg]; exact Nat.ne_of_gt (blk_lt (g := gb500) (o := .cells #[.bool a0_0, .int .i64 a0_1, .slice A0_2 l0_2.length c0_2, .int .i64 a0_3, .slice A0_4 l0_4.length c0_4] 78 (0, 0)) (by (with_reducible repeat (first | refine kN_ ?_ _ | refine kD_ ?_ | refine kA_ ?_ _)); exact BK500.out)) : gb501 ≠ gb500)); clear BK500; clear HB; have BK500 := n0_; have HB := n1_; have BK501 := n2_; have GW501 := n3_; have GE501 := n4_; have NB500_501 := n5_; have NB501_500 := n6_; clear n0_ n1_ n2_ n3_ n4_ n5_ n6_; clear hb hbox hg))
 have n0_ := Az_.mk (kD_ BK500.out)
 have n1_ := Az_.mk (kD_ BK501.out)
 have n2_ := Az_.mk (bD_ HB.out)
 clear BK500
 clear BK501
 clear HB
 have BK500 := n0_
 have BK501 := n1_
 have HB := n2_
 clear n0_ n1_ n2_
 refine start_ (n := 6) (S := fun w' => w'.cell? ⟨gb500, 0, none⟩ = some (.bool a0_0) ∧ w'.cell? ⟨gb500, 1, none⟩ = some (.int .i64 a0_1) ∧ w'.cell? ⟨gb500, 2, none⟩ = some (.slice A0_2 l0_2.length c0_2) ∧ w'.cell? ⟨gb500, 3, none⟩ = some (.int .i64 a0_3) ∧ w'.cell? ⟨gb500, 4, none⟩ = some (.slice A0_4 l0_4.length c0_4) ∧ w'.cell? ⟨gb501, 0, none⟩ = some (.bool a1_0) ∧ w'.cell? ⟨gb501, 1, none⟩ = some (.int .i64 a1_1) ∧ w'.cell? ⟨gb501, 2, none⟩ = some (.slice A1_2 l1_2.length c1_2) ∧ w'.cell? ⟨gb501, 3, none⟩ = some (.int .i64 a1_3) ∧ w'.cell? ⟨gb501, 4, none⟩ = some (.slice A1_4 l1_4.length c1_4)) (ds := []) #[false, false, false, false, false, false] (by kernel_rfl) rfl rfl ⟨(yaa_ BK500.out 0).trans rfl, (yaa_ BK500.out 1).trans rfl, (yaa_ BK500.out 2).trans rfl, (yaa_ BK500.out 3).trans rfl, (yaa_ BK500.out 4).trans rfl, (yaa_ BK501.out 0).trans rfl, (yaa_ BK501.out 1).trans rfl, (yaa_ BK501.out 2).trans rfl, (yaa_ BK501.out 3).trans rfl, (yaa_ BK501.out 4).trans rfl⟩ (fun hHeld => ?_)
 generalize w7.drew = w8 at BK500 BK501 HB hHeld ⊢
 refine take_ (i := 0) (N := some 5) (v := ?_) (a' := ?_) #[true, false, false, false, false, false] rfl rfl (by kernel_rfl) (fun _ _ _ h => h) (Or.inl ⟨by rfl, ?_⟩) hHeld ?_ ?_
 rotate_left
 ·rintro w' ⟨s0, s1, s2, s3, s4, s5, s6, s7, s8, s9⟩
  go_simp
  with_reducible rfl
 rotate_left
 ·simp only [Act.put, sA_, sZ_, sS_, i64_w, i32_w]
  rfl
 refine take_ (i := 2) (N := some 7) (v := ?_) (a' := ?_) #[true, false, true, false, false, false] rfl rfl (by kernel_rfl) (fun _ _ _ h => h) (Or.inl ⟨by rfl, ?_⟩) hHeld ?_ ?_
 rotate_left
 ·rintro w' ⟨s0, s1, s2, s3, s4, s5, s6, s7, s8, s9⟩
  go_simp
  with_reducible rfl
 rotate_left
 ·simp only [Act.put, sA_, sZ_, sS_, i64_w, i32_w]
  rfl
 refine one_ (i := 1) (N := some 6) #[true, true, true, false, false, false] rfl rfl (by kernel_rfl) (by decide) (fun K hK => ?_)
 refine goes_ Try.func63 (by kernel_rfl) rfl #[.agg #[.bool a0_0, .int .i64 a0_1, .slice A0_2 l0_2.length c0_2, .int .i64 a0_3, .slice A0_4 l0_4.length c0_4]] (by rfl) rfl rfl (by (try simp only [List.map_toArray, List.map_cons, List.map_nil]); first | done | rfl | (simp only [List.length_drop, List.length_take]; rfl)) ?_
 with_reducible refine (order_Terms.calls a0_0 a0_1 (fun k_ => k_ < w.heap.size) _ _ l0_2 a0_3 (fun k_ => k_ < w.heap.size) _ _ l0_4 t502 _ ?side1 ?side2 A3.out).mono ?_
 (case side1 => exact Kd.V_mk HC0_2.out (Kd.F_below (Kd.C_F k30_heap HR0_2.out) (by repeat (first | (with_reducible first | exact HB.out | apply bA_ | apply bN_ | apply bD_ | refine bS_ ?_ GE500.out | refine bS_ ?_ GE501.out) | exact HB.out))))
 (case side2 => exact Kd.V_mk HC0_4.out (Kd.F_below (Kd.C_F k30_heap HR0_4.out) (by repeat (first | (with_reducible first | exact HB.out | apply bA_ | apply bN_ | apply bD_ | refine bS_ ?_ GE500.out | refine bS_ ?_ GE501.out) | exact HB.out))))
 rintro e w9 ⟨v503, rfl, ho0, hb⟩
 refine ⟨_, rfl, ?_⟩
 have n0_ := Az_.mk (Kd.N_lower (Kd.N_mono (ok' := fun k_ => k_ ≠ gb500 ∧ k_ ≠ gb501) ho0 (fun k_ hk_ => ⟨Or.elim hk_ (fun hs_ => Or.elim hs_ (fun hs_ => fun e_ => Nat.not_le.2 hs_ (by rw [e_]; exact GW500.out)) (fun hs_ => fun e_ => Nat.not_le.2 hs_ (by rw [e_]; exact GW500.out))) (fun hn_ => (Kd.freshB (g := gb500) (o := .cells #[.bool a0_0, .int .i64 a0_1, .slice A0_2 l0_2.length c0_2, .int .i64 a0_3, .slice A0_4 l0_4.length c0_4] 78 (0, 0)) (by (with_reducible repeat (first | refine kN_ ?_ _ | refine kD_ ?_ | refine kA_ ?_ _)); exact BK500.out) k_ hn_)), Or.elim hk_ (fun hs_ => Or.elim hs_ (fun hs_ => fun e_ => Nat.not_le.2 hs_ (by rw [e_]; exact GW501.out)) (fun hs_ => fun e_ => Nat.not_le.2 hs_ (by rw [e_]; exact GW501.out))) (fun hn_ => (Kd.freshB (g := gb501) (o := .cells #[.bool a1_0, .int .i64 a1_1, .slice A1_2 l1_2.length c1_2, .int .i64 a1_3, .slice A1_4 l1_4.length c1_4] 78 (0, 0)) (by (with_reducible repeat (first | refine kN_ ?_ _ | refine kD_ ?_ | refine kA_ ?_ _)); exact BK501.out) k_ hn_))⟩)) (bZ_ (by repeat (first | (with_reducible first | exact HB.out | apply bA_ | apply bN_ | apply bD_ | refine bS_ ?_ GE500.out | refine bS_ ?_ GE501.out) | exact HB.out))))
 have n1_ := Az_.mk (kB_ (g := gb500) (o := .cells #[.bool a0_0, .int .i64 a0_1, .slice A0_2 l0_2.length c0_2, .int .i64 a0_3, .slice A0_4 l0_4.length c0_4] 78 (0, 0)) (by (with_reducible repeat (first | refine kN_ ?_ _ | refine kD_ ?_ | refine kA_ ?_ _)); exact BK500.out) hb)
 have n2_ := Az_.mk (kB_ (g := gb501) (o := .cells #[.bool a1_0, .int .i64 a1_1, .slice A1_2 l1_2.length c1_2, .int .i64 a1_3, .slice A1_4 l1_4.length c1_4] 78 (0, 0)) (by (with_reducible repeat (first | refine kN_ ?_ _ | refine kD_ ?_ | refine kA_ ?_ _)); exact BK501.out) hb)
 have n3_ := Az_.mk (bT_ (by repeat (first | (with_reducible first | exact HB.out | apply bA_ | apply bN_ | apply bD_ | refine bS_ ?_ GE500.out | refine bS_ ?_ GE501.out) | exact HB.out)) hb)
 clear BK500
 clear BK501
 clear HB
 have HO504 := n0_
 have BK500 := n1_
 have BK501 := n2_
 have HB := n3_
 clear n0_ n1_ n2_ n3_
 (try clear hb)
 (try clear hb2)
 (try clear hk)
 (try clear hi)
 (try clear ho0)
 refine hK.out _ _ ⟨(yaa_ BK500.out 0).trans rfl, (yaa_ BK500.out 1).trans rfl, (yaa_ BK500.out 2).trans rfl, (yaa_ BK500.out 3).trans rfl, (yaa_ BK500.out 4).trans rfl, (yaa_ BK501.out 0).trans rfl, (yaa_ BK501.out 1).trans rfl, (yaa_ BK501.out 2).trans rfl, (yaa_ BK501.out 3).trans rfl, (yaa_ BK501.out 4).trans rfl⟩ (fun hHeld => ?_)
 clear hK K
 refine norm_ (a' := ?_) ?_ ?_
 rotate_left
 ·show Act.put _ (some 6) _ = _
  simp only [Act.put, sA_, sZ_, sS_, i64_w, i32_w]
  rfl
 refine one_ (i := 3) (N := some 8) #[true, true, true, true, false, false] rfl rfl (by kernel_rfl) (by decide) (fun K hK => ?_)
 refine goes_ Try.func63 (by kernel_rfl) rfl #[.agg #[.bool a1_0, .int .i64 a1_1, .slice A1_2 l1_2.length c1_2, .int .i64 a1_3, .slice A1_4 l1_4.length c1_4]] (by rfl) rfl rfl (by (try simp only [List.map_toArray, List.map_cons, List.map_nil]); first | done | rfl | (simp only [List.length_drop, List.length_take]; rfl)) ?_
 with_reducible refine (order_Terms.calls a1_0 a1_1 (fun k_ => k_ < w.heap.size) _ _ l1_2 a1_3 (fun k_ => k_ < w.heap.size) _ _ l1_4 t505 _ ?side1 ?side2 A4.out).mono ?_
 (case side1 => exact Kd.V_mk HC1_2.out (Kd.F_below (Kd.C_F k30_heap HR1_2.out) (by repeat (first | (with_reducible first | exact HB.out | apply bA_ | apply bN_ | apply bD_ | refine bS_ ?_ GE500.out | refine bS_ ?_ GE501.out) | exact HB.out))))
 (case side2 => exact Kd.V_mk HC1_4.out (Kd.F_below (Kd.C_F k30_heap HR1_4.out) (by repeat (first | (with_reducible first | exact HB.out | apply bA_ | apply bN_ | apply bD_ | refine bS_ ?_ GE500.out | refine bS_ ?_ GE501.out) | exact HB.out))))
 rintro e w10 ⟨v506, rfl, ho0, hb⟩
 refine ⟨_, rfl, ?_⟩
 have n0_ := Az_.mk (Kd.N_elder' (by (with_reducible repeat (first | apply Kd.N_alloc | apply Kd.N_drewN | apply Kd.N_drew)); exact HO504.out) (Kd.N_base ho0) hb)
 have n1_ := Az_.mk (Kd.N_lower (Kd.N_mono (ok' := fun k_ => some k_ ≠ (v503 : Value).ownBlock ∧ k_ ≠ gb500 ∧ k_ ≠ gb501) ho0 (fun k_ hk_ => ⟨Or.elim hk_ (fun hs_ => Or.elim hs_ (fun hs_ => fun e_ => Nat.not_le.2 hs_ (Kd.N_base HO504.out k_ e_.symm)) (fun hs_ => fun e_ => Nat.not_le.2 hs_ (Kd.N_base HO504.out k_ e_.symm))) (fun hn_ => (Kd.fresh' (Kd.N_lt (by (with_reducible repeat (first | apply Kd.N_alloc | apply Kd.N_drewN | apply Kd.N_drew)); exact HO504.out)) k_ hn_)), Or.elim hk_ (fun hs_ => Or.elim hs_ (fun hs_ => fun e_ => Nat.not_le.2 hs_ (by rw [e_]; exact GW500.out)) (fun hs_ => fun e_ => Nat.not_le.2 hs_ (by rw [e_]; exact GW500.out))) (fun hn_ => (Kd.freshB (g := gb500) (o := .cells #[.bool a0_0, .int .i64 a0_1, .slice A0_2 l0_2.length c0_2, .int .i64 a0_3, .slice A0_4 l0_4.length c0_4] 78 (0, 0)) (by (with_reducible repeat (first | refine kN_ ?_ _ | refine kD_ ?_ | refine kA_ ?_ _)); exact BK500.out) k_ hn_)), Or.elim hk_ (fun hs_ => Or.elim hs_ (fun hs_ => fun e_ => Nat.not_le.2 hs_ (by rw [e_]; exact GW501.out)) (fun hs_ => fun e_ => Nat.not_le.2 hs_ (by rw [e_]; exact GW501.out))) (fun hn_ => (Kd.freshB (g := gb501) (o := .cells #[.bool a1_0, .int .i64 a1_1, .slice A1_2 l1_2.length c1_2, .int .i64 a1_3, .slice A1_4 l1_4.length c1_4] 78 (0, 0)) (by (with_reducible repeat (first | refine kN_ ?_ _ | refine kD_ ?_ | refine kA_ ?_ _)); exact BK501.out) k_ hn_))⟩)) (bZ_ (by repeat (first | (with_reducible first | exact HB.out | apply bA_ | apply bN_ | apply bD_ | refine bS_ ?_ GE500.out | refine bS_ ?_ GE501.out) | exact HB.out))))
 have n2_ := Az_.mk (kB_ (g := gb500) (o := .cells #[.bool a0_0, .int .i64 a0_1, .slice A0_2 l0_2.length c0_2, .int .i64 a0_3, .slice A0_4 l0_4.length c0_4] 78 (0, 0)) (by (with_reducible repeat (first | refine kN_ ?_ _ | refine kD_ ?_ | refine kA_ ?_ _)); exact BK500.out) hb)
 have n3_ := Az_.mk (kB_ (g := gb501) (o := .cells #[.bool a1_0, .int .i64 a1_1, .slice A1_2 l1_2.length c1_2, .int .i64 a1_3, .slice A1_4 l1_4.length c1_4] 78 (0, 0)) (by (with_reducible repeat (first | refine kN_ ?_ _ | refine kD_ ?_ | refine kA_ ?_ _)); exact BK501.out) hb)
 have n4_ := Az_.mk (bT_ (by repeat (first | (with_reducible first | exact HB.out | apply bA_ | apply bN_ | apply bD_ | refine bS_ ?_ GE500.out | refine bS_ ?_ GE501.out) | exact HB.out)) hb)
 clear HO504
 clear BK500
 clear BK501
 clear HB
 have HO504 := n0_
 have HO507 := n1_
 have BK500 := n2_
 have BK501 := n3_
 have HB := n4_
 clear n0_ n1_ n2_ n3_ n4_
 (try clear hb)
 (try clear hb2)
 (try clear hk)
 (try clear hi)
 (try clear ho0)
 obtain ⟨Ao11, co11, eo11⟩ := Kd.N_slice HO504.out
 (first | subst eo11 | (injection eo11 with f1_ f2_ f3_; have f4_ := f1_.symm; have f5_ := f3_.symm; clear f1_ f2_ f3_; subst f4_; subst f5_))
 obtain ⟨Ao12, co12, eo12⟩ := Kd.N_slice HO507.out
 (first | subst eo12 | (injection eo12 with f1_ f2_ f3_; have f4_ := f1_.symm; have f5_ := f3_.symm; clear f1_ f2_ f3_; subst f4_; subst f5_))
 refine hK.out _ _ ⟨(yaa_ BK500.out 0).trans rfl, (yaa_ BK500.out 1).trans rfl, (yaa_ BK500.out 2).trans rfl, (yaa_ BK500.out 3).trans rfl, (yaa_ BK500.out 4).trans rfl, (yaa_ BK501.out 0).trans rfl, (yaa_ BK501.out 1).trans rfl, (yaa_ BK501.out 2).trans rfl, (yaa_ BK501.out 3).trans rfl, (yaa_ BK501.out 4).trans rfl⟩ (fun hHeld => ?_)
 clear hK K
 refine norm_ (a' := ?_) ?_ ?_
 rotate_left
 ·show Act.put _ (some 8) _ = _
  simp only [Act.put, sA_, sZ_, sS_, i64_w, i32_w]
  rfl
 refine one_ (i := 4) (N := some 9) #[true, true, true, true, true, false] rfl rfl (by kernel_rfl) (by decide) (fun K hK => ?_)
 refine goes_ Try.func62 (by kernel_rfl) rfl #[.slice Ao11 t502.length co11, .slice Ao12 t505.length co12] (by rfl) rfl rfl (by (try simp only [List.map_toArray, List.map_cons, List.map_nil]); first | done | rfl | (simp only [List.length_drop, List.length_take]; rfl)) ?_
 with_reducible refine (order_Multi.calls _ _ t502 _ _ t505 t508 _ ?side1 ?side2 ?side3 ?side4 A5.out).mono ?_
 (case side1 => repeat (first | exact (Kd.N_reads' HO504.out).2.2 | (with_reducible refine Kd.C_alloc ?_ _) | (with_reducible refine Kd.C_drewN ?_ _) | (with_reducible refine Kd.C_drew ?_)))
 (case side2 => exact (Kd.N_reads' HO504.out).2.1)
 (case side3 => repeat (first | exact (Kd.N_reads' HO507.out).2.2 | (with_reducible refine Kd.C_alloc ?_ _) | (with_reducible refine Kd.C_drewN ?_ _) | (with_reducible refine Kd.C_drew ?_)))
 (case side4 => exact (Kd.N_reads' HO507.out).2.1)
 rintro e w13 ⟨rfl, hb⟩
 refine ⟨_, rfl, ?_⟩
 have n0_ := Az_.mk (Kd.N_below (by (with_reducible repeat (first | apply Kd.N_alloc | apply Kd.N_drewN | apply Kd.N_drew)); exact HO504.out) hb)
 have n1_ := Az_.mk (Kd.N_below (by (with_reducible repeat (first | apply Kd.N_alloc | apply Kd.N_drewN | apply Kd.N_drew)); exact HO507.out) hb)
 have n2_ := Az_.mk (kB_ (g := gb500) (o := .cells #[.bool a0_0, .int .i64 a0_1, .slice A0_2 l0_2.length c0_2, .int .i64 a0_3, .slice A0_4 l0_4.length c0_4] 78 (0, 0)) (by (with_reducible repeat (first | refine kN_ ?_ _ | refine kD_ ?_ | refine kA_ ?_ _)); exact BK500.out) hb)
 have n3_ := Az_.mk (kB_ (g := gb501) (o := .cells #[.bool a1_0, .int .i64 a1_1, .slice A1_2 l1_2.length c1_2, .int .i64 a1_3, .slice A1_4 l1_4.length c1_4] 78 (0, 0)) (by (with_reducible repeat (first | refine kN_ ?_ _ | refine kD_ ?_ | refine kA_ ?_ _)); exact BK501.out) hb)
 have n4_ := Az_.mk (bT_ (by repeat (first | (with_reducible first | exact HB.out | apply bA_ | apply bN_ | apply bD_ | refine bS_ ?_ GE500.out | refine bS_ ?_ GE501.out) | exact HB.out)) hb)
 clear HO504
 clear HO507
 clear BK500
 clear BK501
 clear HB
 have HO504 := n0_
 have HO507 := n1_
 have BK500 := n2_
 have BK501 := n3_
 have HB := n4_
 clear n0_ n1_ n2_ n3_ n4_
 (try clear hb)
 (try clear hb2)
 (try clear hk)
 (try clear hi)
 refine hK.out _ _ ⟨(yaa_ BK500.out 0).trans rfl, (yaa_ BK500.out 1).trans rfl, (yaa_ BK500.out 2).trans rfl, (yaa_ BK500.out 3).trans rfl, (yaa_ BK500.out 4).trans rfl, (yaa_ BK501.out 0).trans rfl, (yaa_ BK501.out 1).trans rfl, (yaa_ BK501.out 2).trans rfl, (yaa_ BK501.out 3).trans rfl, (yaa_ BK501.out 4).trans rfl⟩ (fun hHeld => ?_)
 clear hK K
 refine norm_ (a' := ?_) ?_ ?_
 rotate_left
 ·show Act.put _ (some 9) _ = _
  simp only [Act.put, sA_, sZ_, sS_, i64_w, i32_w]
  rfl
 refine pure_ (i := 5) (N := some 4) (v := ?_) (a' := ?_) #[true, true, true, true, true, true] rfl rfl (by kernel_rfl) (fun _ _ _ h => h) (Or.inl ⟨by rfl, ?_⟩) ?_ ?_
 rotate_left
 ·intro w'
  go_simp
  with_reducible rfl
 rotate_left
 ·simp only [Act.put, sA_, sZ_, sS_, i64_w, i32_w]
  rfl
 refine done_ (by kernel_rfl) ?_
 try go_wp2
 go_ret
 exact ⟨by first | rfl | (simp [yag_, yaf_] <;> rfl) | (simp [*, yag_, yaf_] <;> rfl), by repeat (first | (with_reducible first | exact HB.out | apply bA_ | apply bN_ | apply bD_ | refine bS_ ?_ GE500.out | refine bS_ ?_ GE501.out) | exact HB.out)⟩
end
section
def restU : List S30 → List Bool → List S30
 | y :: b, v :: u => if v = true then restU b u else y :: restU b u
 | _, _ => []
theorem restU_none : ∀ b : List S30, restU b (List.replicate b.length false) = b
 | [] => rfl
 | y :: b => by rw [List.length_cons, List.replicate_succ, restU, if_neg (by decide), restU_none b]
theorem restU_take : ∀ (b : List S30) (u : List Bool) (j : Nat) (hb : j < b.length) (hu : j < u.length), restU (b.take (j + 1)) (u.take (j + 1)) = restU (b.take j) (u.take j) ++ (if u[j] = true then [] else [b[j]])
 | y :: b, v :: u, 0, _, _ => by simp [restU]
 | y :: b, v :: u, j + 1, hb, hu => by
  have := restU_take b u j (by simpa using hb) (by simpa using hu)
  simp only [List.take_succ_cons, restU, this, List.getElem_cons_succ]
  split <;> simp
theorem restU_set : ∀ (b : List S30) (u : List Bool) (j : Nat) (z : S30) (hb : j < b.length) (hu : j < u.length), u[j] = false → sameT z b[j] = true → (restU (b.take j) (u.take j)).any (sameT z) = false →
  restU b (u.set j true) = (restU b u).eraseP (sameT z) ∧ (restU b u).any (sameT z) = true
 | y :: b, v :: u, 0, z, _, _, hv, hs, _ => by
  simp at hv hs
  subst hv
  simp [restU, hs, List.eraseP_cons]
 | y :: b, v :: u, j + 1, z, hb, hu, hv, hs, hn => by
  simp only [List.getElem_cons_succ] at hv hs
  simp only [List.take_succ_cons, restU] at hn
  cases hvv : v with
  | true =>
   rw [hvv, if_pos rfl] at hn
   obtain ⟨h1, h2⟩ := restU_set b u j z (by simpa using hb) (by simpa using hu) hv hs hn
   simp only [List.set_cons_succ, restU, if_true]
   exact ⟨h1, h2⟩
  | false =>
   rw [hvv, if_neg (by decide), List.any_cons, Bool.or_eq_false_iff] at hn
   obtain ⟨h1, h2⟩ := restU_set b u j z (by simpa using hb) (by simpa using hu) hv hs hn.2
   simp only [List.set_cons_succ, restU]
   rw [if_neg (by decide), if_neg (by decide), h1, List.eraseP_cons, hn.1, cond_false, List.any_cons, hn.1, h2]
   exact ⟨rfl, rfl⟩
theorem rdOf_at (u : List Bool) (j : Nat) (h : j < u.length) : rdOf false u (j : Int) = u[j] := by
 unfold rdOf
 simp [List.getD, List.getElem?_eq_getElem h]
theorem less_spec (a b : List S30) (ha : ∀ x ∈ a, fit x) (na : a.length ≤ 1000000) (nb : b.length ≤ 1000000) : Ev (fun k => soritesref14_less.f k a b) (diffT a b).1 := by
 have run : ∀ (m j : Nat), b.length - j = m → j ≤ b.length → ∀ (u : List Bool) (o : List S30) (i : Nat) (r : List S30), i < a.length → Ev (fun k => soritesref14_less.l0 k a b u o ((i + 1 : Nat) : Int)) r → Ev (fun k => soritesref14_less.l1 k a b u o (i : Int) true (j : Int)) r := by
  intro m
  induction m with
  | zero =>
   intro j hj hle u o i r hi h
   refine Ev.step (f := fun k => soritesref14_less.l0 k a b u o ((i + 1 : Nat) : Int)) (fun k => ?_) h
   rw [soritesref14_less.l1, if_neg (by omega), if_pos rfl, wsucc i a.length hi (by omega)]
  | succ m ih =>
   intro j hj hle u o i r hi h
   refine Ev.step (f := fun k => soritesref14_less.l1 k a b u o (i : Int) true ((j + 1 : Nat) : Int)) (fun k => ?_) (ih (j + 1) (by omega) (by omega) u o i r hi h)
   rw [soritesref14_less.l1, if_pos (by omega), if_pos rfl, wsucc j b.length (by omega) (by omega)]
 have outer : ∀ (n i : Nat), a.length - i = n → i ≤ a.length → ∀ (u : List Bool) (o : List S30), u.length = b.length → o.length ≤ i → Ev (fun k => soritesref14_less.l0 k a b u o (i : Int)) (o ++ (diffT (a.drop i) (restU b u)).1) := by
  intro n
  induction n with
  | zero =>
   intro i hi hle u o hu ho
   refine Ev.step (f := fun _ => some o) (fun k => by rw [soritesref14_less.l0, if_neg (by omega)]) ?_
   rw [List.drop_of_length_le (by omega), diffT, List.append_nil]
   exact Ev.now _
  | succ n ihn =>
   intro i hi hle u o hu ho
   have hlt : i < a.length := by omega
   rw [List.drop_eq_getElem_cons hlt]
   have inner : ∀ (m j : Nat), b.length - j = m → j ≤ b.length → (restU (b.take j) (u.take j)).any (sameT a[i]) = false → Ev (fun k => soritesref14_less.l1 k a b u o (i : Int) false (j : Int)) (o ++ (diffT (a[i] :: a.drop (i + 1)) (restU b u)).1) := by
    intro m
    induction m with
    | zero =>
     intro j hj hjl hn
     rw [List.take_of_length_le (by omega), List.take_of_length_le (by omega)] at hn
     refine Ev.step (f := fun k => soritesref14_less.l0 k a b u (o ++ [a[i]]) ((i + 1 : Nat) : Int)) (fun k => ?_) ?_
     ·rw [soritesref14_less.l1, if_neg (by omega), if_neg (by decide), if_pos (by omega), if_pos (by omega), if_pos (by omega), rd24_at a i hlt, wsucc i a.length hlt (by omega), S30.eta]
     ·have := ihn (i + 1) (by omega) (by omega) u (o ++ [a[i]]) hu (by rw [List.length_append, List.length_singleton]; omega)
      rw [diffT, if_neg (by rw [hn]; decide)]
      rw [List.append_assoc] at this
      exact this
    | succ m ihm =>
     intro j hj hjl hn
     have hjb : j < b.length := by omega
     have hju : j < u.length := by omega
     have htk := restU_take b u j hjb hju
     cases hv : u[j] with
     | true =>
      rw [hv, if_pos rfl, List.append_nil] at htk
      refine Ev.step (f := fun k => soritesref14_less.l1 k a b u o (i : Int) false ((j + 1 : Nat) : Int)) (fun k => ?_) (ihm (j + 1) (by omega) (by omega) (by rw [htk]; exact hn))
      rw [soritesref14_less.l1, if_pos (by omega), if_neg (by decide), if_pos (by omega), if_pos (by omega), rdOf_at u j hju, if_pos hv, wsucc j b.length hjb (by omega)]
     | false =>
      rw [hv, if_neg (by decide)] at htk
      have hsame := RSame_spec a[i] b[j] (ha _ (List.getElem_mem hlt))
      refine Ev.step (f := fun k => (soritesref06_Same.f k a[i].f0 a[i].f1 b[j].f0 b[j].f1).bind fun t => if t = true then soritesref14_less.l1 k a b (u.set j true) o (i : Int) true ((j + 1 : Nat) : Int) else soritesref14_less.l1 k a b u o (i : Int) false ((j + 1 : Nat) : Int)) (fun k => ?_) (Ev.bind hsame ?_)
      ·rw [soritesref14_less.l1, if_pos (by omega), if_neg (by decide), if_pos (by omega), if_pos (by omega), rdOf_at u j hju, if_neg (by rw [hv]; decide), if_pos (by omega), if_pos (by omega), rd24_at a i hlt, rd24_at b j hjb, wsucc j b.length hjb (by omega), Int.toNat_natCast]
      ·cases hs : sameT a[i] b[j] with
       | true =>
        have hs' : (cmpT a[i] b[j] == 0) = true := hs
        simp only [hs', if_true]
        obtain ⟨h1, h2⟩ := restU_set b u j a[i] hjb hju hv hs hn
        refine run (b.length - (j + 1)) (j + 1) rfl (by omega) _ _ i _ hlt ?_
        have := ihn (i + 1) (by omega) (by omega) (u.set j true) o (by rw [List.length_set]; exact hu) (by omega)
        rw [h1] at this
        rw [diffT, if_pos h2]
        exact this
       | false =>
        have hs' : (cmpT a[i] b[j] == 0) = false := hs
        simp only [hs', Bool.false_eq_true, if_false]
        exact ihm (j + 1) (by omega) (by omega) (by rw [htk, List.any_append, hn, List.any_cons, hs]; rfl)
   refine Ev.step (f := fun k => soritesref14_less.l1 k a b u o (i : Int) false ((0 : Nat) : Int)) (fun k => by rw [soritesref14_less.l0, if_pos (by omega)]; rfl) (inner b.length 0 (by omega) (by omega) rfl)
 have := outer a.length 0 rfl (by omega) (List.replicate b.length false) [] (by simp) (by simp)
 rw [restU_none] at this
 refine Ev.congr (f := fun k => soritesref14_less.l0 k a b (List.replicate b.length false) [] ((0 : Nat) : Int)) (fun k => ?_) this
 rw [soritesref14_less.f, if_pos (by omega), if_pos (by omega)]
 rw [Int.toNat_natCast]
 rfl
theorem diff_sub : ∀ (a b : List S30), (∀ x ∈ (diffT a b).1, x ∈ a) ∧ (diffT a b).1.length ≤ a.length
 | [], b => ⟨fun x h => h, Nat.le_refl _⟩
 | z :: r, b => by
  rw [diffT]
  split
  ·obtain ⟨h1, h2⟩ := diff_sub r (b.eraseP (sameT z))
   exact ⟨fun x hx => List.mem_cons_of_mem _ (h1 x hx), by rw [List.length_cons]; omega⟩
  ·obtain ⟨h1, h2⟩ := diff_sub r b
   refine ⟨fun x hx => ?_, by simp only [List.length_cons]; omega⟩
   rcases List.mem_cons.1 hx with rfl | hx
   ·simp
   ·exact List.mem_cons_of_mem _ (h1 x hx)
def refMulti (x y : List S30) : Bool := (y.all fun v => x.any fun u => gtT u v) && decide ((x.length : Int) > 0)
theorem refMulti_eq (a b : List S30) : refMulti (diffT a b).1 (diffT b a).1 = multiT a b := by
 have h1 : ∀ x, x ∈ (diffT a b).1 → cnt b x < cnt a x := fun x hx => by have := cnt_mem hx; rw [(cnt_diff a b x).1] at this; omega
 have h2 : ∀ x, cnt b x < cnt a x → ∃ y ∈ (diffT a b).1, sameT x y = true := fun x hx => cnt_pos (by rw [(cnt_diff a b x).1]; omega)
 have h3 : ∀ x, x ∈ (diffT b a).1 → cnt a x < cnt b x := fun x hx => by have := cnt_mem hx; rw [(cnt_diff b a x).1] at this; omega
 have h4 : ∀ x, cnt a x < cnt b x → ∃ y ∈ (diffT b a).1, sameT x y = true := fun x hx => cnt_pos (by rw [(cnt_diff b a x).1]; omega)
 rw [Bool.eq_iff_iff, multi_iff]
 unfold refMulti DM
 rw [Bool.and_eq_true, List.all_eq_true, decide_eq_true_iff]
 constructor
 ·rintro ⟨k2, k1⟩
  refine ⟨?_, fun y hy => ?_⟩
  ·obtain ⟨x, hx⟩ := List.exists_mem_of_length_pos (show 0 < (diffT a b).1.length by omega)
   exact ⟨x, h1 x hx⟩
  ·obtain ⟨y', hy', hs⟩ := h4 y hy
   obtain ⟨x, hx, hg⟩ := List.any_eq_true.1 (k2 y' hy')
   exact ⟨x, by rw [gt_congr x x y y' (cmp_self x) (same_iff.1 hs)]; exact hg, h1 x hx⟩
 ·rintro ⟨⟨x, hx⟩, k2⟩
  refine ⟨fun y hy => ?_, ?_⟩
  ·obtain ⟨x, hg, hx⟩ := k2 y (h3 y hy)
   obtain ⟨x', hx', hs⟩ := h2 x hx
   exact List.any_eq_true.2 ⟨x', hx', by rw [gt_congr x' x y y (eqv_symm (same_iff.1 hs)) (cmp_self y)]; exact hg⟩
  ·obtain ⟨x', hx', _⟩ := h2 x hx
   have := List.length_pos_of_mem hx'
   omega
theorem RMulti_loop (x y : List S30) (hx : ∀ u ∈ x, fit u) (hy : ∀ v ∈ y, fit v) (nx : x.length ≤ 1000000) (ny : y.length ≤ 1000000) : Ev (fun k => soritesref14_Multi.l0 k x y 0) (refMulti x y) := by
 have key : ∀ (n i : Nat), y.length - i = n → i ≤ y.length → Ev (fun k => soritesref14_Multi.l0 k x y (i : Int)) (((y.drop i).all fun v => x.any fun u => gtT u v) && decide ((x.length : Int) > 0)) := by
  intro n
  induction n with
  | zero =>
   intro i hi hle
   refine Ev.step (f := fun _ => some (decide ((x.length : Int) > 0))) (fun k => by rw [soritesref14_Multi.l0, if_neg (by omega)]) ?_
   rw [List.drop_of_length_le (by omega), List.all_nil, Bool.true_and]
   exact Ev.now _
  | succ n ihn =>
   intro i hi hle
   have hlt : i < y.length := by omega
   rw [List.drop_eq_getElem_cons hlt, List.all_cons, Bool.and_assoc]
   have inner : ∀ (m j : Nat), x.length - j = m → j ≤ x.length → ∀ b : Bool, Ev (fun k => soritesref14_Multi.l1 k x y (i : Int) b (j : Int)) ((b || (x.drop j).any fun u => gtT u y[i]) && (((y.drop (i + 1)).all fun v => x.any fun u => gtT u v) && decide ((x.length : Int) > 0))) := by
    intro m
    induction m with
    | zero =>
     intro j hj hjl b
     rw [show x.drop j = [] from List.drop_of_length_le (by omega), List.any_nil, Bool.or_false]
     cases b with
     | true =>
      refine Ev.step (f := fun k => soritesref14_Multi.l0 k x y ((i + 1 : Nat) : Int)) (fun k => by rw [soritesref14_Multi.l1, if_neg (by omega), if_pos rfl, wsucc i y.length hlt (by omega)]) ?_
      rw [Bool.true_and]
      exact ihn (i + 1) (by omega) (by omega)
     | false =>
      refine Ev.step (f := fun _ => some false) (fun k => by rw [soritesref14_Multi.l1, if_neg (by omega), if_neg (by decide)]) (Ev.now _)
    | succ m ihm =>
     intro j hj hjl b
     have hjb : j < x.length := by omega
     rw [List.drop_eq_getElem_cons hjb, List.any_cons]
     cases b with
     | true =>
      refine Ev.step (f := fun k => soritesref14_Multi.l1 k x y (i : Int) true ((j + 1 : Nat) : Int)) (fun k => by rw [soritesref14_Multi.l1, if_pos (by omega), if_pos rfl, wsucc j x.length hjb (by omega)]) ?_
      have := ihm (j + 1) (by omega) (by omega) true
      rw [Bool.true_or] at this ⊢
      exact this
     | false =>
      refine Ev.step (f := fun k => (soritesref10_Greater.f k x[j].f0 x[j].f1 y[i].f0 y[i].f1).bind fun t => soritesref14_Multi.l1 k x y (i : Int) t ((j + 1 : Nat) : Int)) (fun k => ?_) (Ev.bind (RGreater_spec x[j] y[i] (hx _ (List.getElem_mem hjb)) (hy _ (List.getElem_mem hlt))) ?_)
      ·rw [soritesref14_Multi.l1, if_pos (by omega), if_neg (by decide), if_pos (by omega), if_pos (by omega), if_pos (by omega), rd24_at x j hjb, rd24_at y i hlt, wsucc j x.length hjb (by omega)]
      ·rw [Bool.false_or]
       exact ihm (j + 1) (by omega) (by omega) _
   refine Ev.step (f := fun k => soritesref14_Multi.l1 k x y (i : Int) false ((0 : Nat) : Int)) (fun k => by rw [soritesref14_Multi.l0, if_pos (by omega)]; rfl) ?_
   have := inner x.length 0 rfl (by omega) false
   rw [Bool.false_or] at this
   exact this
 exact key y.length 0 rfl (by omega)
theorem RMulti_spec (a b : List S30) (ha : ∀ x ∈ a, fit x) (hb : ∀ x ∈ b, fit x) (na : a.length ≤ 1000000) (nb : b.length ≤ 1000000) : Ev (fun k => soritesref14_Multi.f k a b) (multiT a b) := by
 unfold soritesref14_Multi.f
 refine Ev.bind (less_spec a b ha na nb) (Ev.bind (less_spec b a hb nb na) ?_)
 rw [← refMulti_eq]
 obtain ⟨h1, h2⟩ := diff_sub a b
 obtain ⟨h3, h4⟩ := diff_sub b a
 exact RMulti_loop _ _ (fun u hu => ha u (h1 u hu)) (fun v hv => hb v (h3 v hv)) (by omega) (by omega)
def termsT (x : S78) : List S30 := if x.f0 = true then [x.f1, x.f1, x.f2, x.f2] else [x.f1, x.f2]
def grL (x y : S78) : Bool := multiT (termsT x) (termsT y)
def fitL (x : S78) : Prop := fit x.f1 ∧ fit x.f2
theorem terms_fit {x : S78} (h : fitL x) : ∀ t ∈ termsT x, fit t := by
 intro t ht
 unfold termsT at ht
 split at ht <;> simp at ht
 ·rcases ht with rfl | rfl | rfl | rfl <;> first | exact h.1 | exact h.2
 ·rcases ht with rfl | rfl <;> first | exact h.1 | exact h.2
theorem terms_len (x : S78) : (termsT x).length ≤ 4 := by unfold termsT; split <;> simp
theorem OTerms_of (x : S78) : order_Terms.f x.f0 x.f1.f0 x.f1.f1 x.f2.f0 x.f2.f1 = some (termsT x) := by
 unfold order_Terms.f termsT
 simp only [S30.eta]
 split <;> rfl
theorem RTerms_of (x : S78) : soritesref14_Terms.f x.f0 x.f1.f0 x.f1.f1 x.f2.f0 x.f2.f1 = some (termsT x) := by
 unfold soritesref14_Terms.f termsT
 simp only [S30.eta]
 split <;> rfl
theorem OGreater_of {x y : S78} (hx : fitL x) (hy : fitL y) : order_Greater.f x.f0 x.f1.f0 x.f1.f1 x.f2.f0 x.f2.f1 y.f0 y.f1.f0 y.f1.f1 y.f2.f0 y.f2.f1 = some (grL x y) := by
 unfold order_Greater.f
 rw [OTerms_of, OTerms_of, Option.bind_some, Option.bind_some, Multi_of (terms_fit hx) (terms_fit hy) (by have := terms_len x; omega) (by have := terms_len y; omega)]
 rfl
theorem RGreaterL_spec {x y : S78} (hx : fitL x) (hy : fitL y) : Ev (fun k => soritesref14_Greater.f k x.f0 x.f1.f0 x.f1.f1 x.f2.f0 x.f2.f1 y.f0 y.f1.f0 y.f1.f1 y.f2.f0 y.f2.f1) (grL x y) := by
 unfold soritesref14_Greater.f
 simp only [RTerms_of, Option.bind_some]
 exact Ev.bind (RMulti_spec _ _ (terms_fit hx) (terms_fit hy) (by have := terms_len x; omega) (by have := terms_len y; omega)) (Ev.now _)
end
section
attribute [local go_sem] max2_int min2_int max_two min_two max_three min_three max_four min_four
def order_weight.f (a0_0 : Bool) (a0_1 : Int) (l0_2 : List (S30)) (a0_3 : Int) (l0_4 : List (S30)) : Option (Int) := (term_Size.f a0_1 l0_2).bind fun t364 => ((term_Size.f a0_3 l0_4).bind fun t365 => (some (wrap64 (t364 + t365))))
def order_weight.T1 : Bool × List (List Nat × List Nat) := (true, [([], []), ([0], [0]), ([1], [1]), ([], []), ([3], [3]), ([4, 2], [4]), ([2, 5], [2, 5]), ([6, 5, 0, 1, 2, 3, 4, 5, 6], [6])])
def order_weight.B1 : List Nat := [0, 1, 3, 0, 8, 31, 63, 127]
theorem order_weight.tab1 : rtab .any (opsOf Try.f86 1) = order_weight.T1 := by kernel_rfl
theorem order_weight.bits1 : waitsOk order_weight.T1.2 order_weight.B1 = true := by kernel_rfl
set_option maxHeartbeats 8000000 in
set_option maxRecDepth 100000 in
theorem order_weight.calls (a0_0 : Bool) (a0_1 : Int) (A0_2 : Option Addr) (c0_2 : Nat) (l0_2 : List (S30)) (a0_3 : Int) (A0_4 : Option Addr) (c0_4 : Nat) (l0_4 : List (S30)) (r : Int) (w : World) (hr0_2 : Kd.C k30 w A0_2 l0_2.length l0_2) (hc0_2 : l0_2.length ≤ c0_2) (hr0_4 : Kd.C k30 w A0_4 l0_4.length l0_4) (hc0_4 : l0_4.length ≤ c0_4) (h : order_weight.f a0_0 a0_1 l0_2 a0_3 l0_4 = some r) :
  Calls Try.prog 86 #[.agg #[.bool a0_0, .int .i64 a0_1, .slice A0_2 l0_2.length c0_2, .int .i64 a0_3, .slice A0_4 l0_4.length c0_4]] w fun e w' => e = .returned (.int .i64 r) ∧ Below w.heap.size w w' := by
 have hu78 := Try.underlying78
 have hu30 := Try.underlying30
 have HR0_2 := Az_.mk hr0_2
 have HC0_2 := Az_.mk hc0_2
 clear hr0_2 hc0_2
 have HR0_4 := Az_.mk hr0_4
 have HC0_4 := Az_.mk hc0_4
 clear hr0_4 hc0_4
 have HB := Az_.mk (Below.refl w.heap.size w)
 have H : ((term_Size.f a0_1 l0_2).bind fun t364 => ((term_Size.f a0_3 l0_4).bind fun t365 => (some (wrap64 (t364 + t365))))) = some r := h
 clear h
 replace H := Option.bind_eq_some_iff.mp H
 obtain ⟨t364, A20, H⟩ := H
 replace H : ((term_Size.f a0_3 l0_4).bind fun t365 => (some (wrap64 (t364 + t365)))) = some r := H
 have A2 := Az_.mk A20
 clear A20
 replace H := Option.bind_eq_some_iff.mp H
 obtain ⟨t365, A30, H⟩ := H
 replace H : (some (wrap64 (t364 + t365))) = some r := H
 have A3 := Az_.mk A30
 clear A30
 obtain rfl := Option.some.inj H
 go_enter Try.func86, Try.ntmps86
 try go_wp2_with (first | ((with_reducible refine yak_ (N := 1) rfl ?_); refine yaj_ ?hg (N := 1) ?hd (cs := #[.bool a0_0, .int .i64 a0_1, .slice A0_2 l0_2.length c0_2, .int .i64 a0_3, .slice A0_4 l0_4.length c0_4]) (t := 78) ?hr ?_; (case hd => rfl); (case hg => rfl); (case hr => first | (go_simp; done) | (go_simp; rfl)); intro gb363 hg w4 hbox hb; have n0_ := Az_.mk (bT_ (by repeat (first | (with_reducible first | exact HB.out | apply bA_ | apply bN_ | apply bD_) | exact HB.out)) hb); have n1_ := Az_.mk (hbox); have n2_ := Az_.mk ((by rw [hg]; exact (bZ_ (by repeat (first | (with_reducible first | exact HB.out | apply bA_ | apply bN_ | apply bD_) | exact HB.out))) : w.heap.size ≤ gb363)); have n3_ := Az_.mk ((by rw [hg]; exact (bZ_ (by repeat (first | (with_reducible first | exact HB.out | apply bA_ | apply bN_ | apply bD_) | exact HB.out))) : w.heap.size ≤ gb363)); clear HB; have HB := n0_; have BK363 := n1_; have GW363 := n2_; have GE363 := n3_; clear n0_ n1_ n2_ n3_; clear hb hbox hg))
 have n0_ := Az_.mk (kD_ BK363.out)
 have n1_ := Az_.mk (bD_ HB.out)
 clear BK363
 clear HB
 have BK363 := n0_
 have HB := n1_
 clear n0_ n1_
 refine start_ (n := 8) (S := fun w' => w'.cell? ⟨gb363, 0, none⟩ = some (.bool a0_0) ∧ w'.cell? ⟨gb363, 1, none⟩ = some (.int .i64 a0_1) ∧ w'.cell? ⟨gb363, 2, none⟩ = some (.slice A0_2 l0_2.length c0_2) ∧ w'.cell? ⟨gb363, 3, none⟩ = some (.int .i64 a0_3) ∧ w'.cell? ⟨gb363, 4, none⟩ = some (.slice A0_4 l0_4.length c0_4)) (ds := []) #[false, false, false, false, false, false, false, false] (by kernel_rfl) rfl rfl ⟨(yaa_ BK363.out 0).trans rfl, (yaa_ BK363.out 1).trans rfl, (yaa_ BK363.out 2).trans rfl, (yaa_ BK363.out 3).trans rfl, (yaa_ BK363.out 4).trans rfl⟩ (fun hHeld => ?_); refine with_tabW order_weight.tab1 order_weight.bits1 (fun HT_ HW_ => ?_)
 generalize w4.drew = w5 at BK363 HB hHeld ⊢
 refine pure_ (i := 0) (N := some 3) (v := ?_) (a' := ?_) #[true, false, false, false, false, false, false, false] rfl rfl (any_of HT_.out (by kernel_rfl)) (fun _ _ _ h => h) (Or.inl ⟨by rfl, ?_⟩) ?_ ?_
 rotate_left
 ·intro w'
  go_simp
  with_reducible rfl
 rotate_left
 ·simp only [Act.put, sA_, sZ_, sS_, i64_w, i32_w]
  rfl
 refine pure_ (i := 3) (N := some 6) (v := ?_) (a' := ?_) #[true, false, false, true, false, false, false, false] rfl rfl (any_of HT_.out (by kernel_rfl)) (fun _ _ _ h => h) (Or.inl ⟨by rfl, ?_⟩) ?_ ?_
 rotate_left
 ·intro w'
  go_simp
  with_reducible rfl
 rotate_left
 ·simp only [Act.put, sA_, sZ_, sS_, i64_w, i32_w]
  rfl
 refine take_ (i := 1) (N := some 4) (v := ?_) (a' := ?_) #[true, true, false, true, false, false, false, false] rfl rfl (take_ofW HT_.out HW_.out (by kernel_rfl)) (fun _ _ _ h => h) (Or.inl ⟨by rfl, ?_⟩) hHeld ?_ ?_
 rotate_left
 ·rintro w' ⟨s0, s1, s2, s3, s4⟩
  go_simp
  with_reducible rfl
 rotate_left
 ·simp only [Act.put, sA_, sZ_, sS_, i64_w, i32_w]
  rfl
 refine take_ (i := 4) (N := some 7) (v := ?_) (a' := ?_) #[true, true, false, true, true, false, false, false] rfl rfl (take_ofW HT_.out HW_.out (by kernel_rfl)) (fun _ _ _ h => h) (Or.inl ⟨by rfl, ?_⟩) hHeld ?_ ?_
 rotate_left
 ·rintro w' ⟨s0, s1, s2, s3, s4⟩
  go_simp
  with_reducible rfl
 rotate_left
 ·simp only [Act.put, sA_, sZ_, sS_, i64_w, i32_w]
  rfl
 refine one_ (i := 2) (N := some 5) #[true, true, true, true, true, false, false, false] rfl rfl (one_of HT_.out (by kernel_rfl)) (by decide) (fun K hK => ?_)
 refine goes_ Try.func34 (by kernel_rfl) rfl #[.agg #[.int .i64 a0_1, .slice A0_2 l0_2.length c0_2]] (by rfl) rfl rfl (by (try simp only [List.map_toArray, List.map_cons, List.map_nil]); first | done | rfl | (simp only [List.length_drop, List.length_take]; rfl)) ?_
 with_reducible refine (term_Size.calls a0_1 _ _ l0_2 t364 _ ?side1 ?side2 A2.out).mono ?_
 (case side1 => repeat (first | exact (Kd.C_below HR0_2.out HB.out) | (with_reducible refine Kd.C_alloc ?_ _) | (with_reducible refine Kd.C_drewN ?_ _) | (with_reducible refine Kd.C_drew ?_)))
 (case side2 => exact HC0_2.out)
 rintro e w6 ⟨rfl, hb⟩
 refine ⟨_, rfl, ?_⟩
 have n0_ := Az_.mk (kB_ (g := gb363) (o := .cells #[.bool a0_0, .int .i64 a0_1, .slice A0_2 l0_2.length c0_2, .int .i64 a0_3, .slice A0_4 l0_4.length c0_4] 78 (0, 0)) (by (with_reducible repeat (first | refine kN_ ?_ _ | refine kD_ ?_ | refine kA_ ?_ _)); exact BK363.out) hb)
 have n1_ := Az_.mk (bT_ (by repeat (first | (with_reducible first | exact HB.out | apply bA_ | apply bN_ | apply bD_ | refine bS_ ?_ GE363.out) | exact HB.out)) hb)
 clear BK363
 clear HB
 have BK363 := n0_
 have HB := n1_
 clear n0_ n1_
 (try clear hb)
 (try clear hb2)
 (try clear hk)
 (try clear hi)
 refine hK.out _ _ ⟨(yaa_ BK363.out 0).trans rfl, (yaa_ BK363.out 1).trans rfl, (yaa_ BK363.out 2).trans rfl, (yaa_ BK363.out 3).trans rfl, (yaa_ BK363.out 4).trans rfl⟩ (fun hHeld => ?_)
 clear hK K
 refine norm_ (a' := ?_) ?_ ?_
 rotate_left
 ·show Act.put _ (some 5) _ = _
  simp only [Act.put, sA_, sZ_, sS_, i64_w, i32_w]
  rfl
 refine one_ (i := 5) (N := some 8) #[true, true, true, true, true, true, false, false] rfl rfl (one_of HT_.out (by kernel_rfl)) (by decide) (fun K hK => ?_)
 refine goes_ Try.func34 (by kernel_rfl) rfl #[.agg #[.int .i64 a0_3, .slice A0_4 l0_4.length c0_4]] (by rfl) rfl rfl (by (try simp only [List.map_toArray, List.map_cons, List.map_nil]); first | done | rfl | (simp only [List.length_drop, List.length_take]; rfl)) ?_
 with_reducible refine (term_Size.calls a0_3 _ _ l0_4 t365 _ ?side1 ?side2 A3.out).mono ?_
 (case side1 => repeat (first | exact (Kd.C_below HR0_4.out HB.out) | (with_reducible refine Kd.C_alloc ?_ _) | (with_reducible refine Kd.C_drewN ?_ _) | (with_reducible refine Kd.C_drew ?_)))
 (case side2 => exact HC0_4.out)
 rintro e w7 ⟨rfl, hb⟩
 refine ⟨_, rfl, ?_⟩
 have n0_ := Az_.mk (kB_ (g := gb363) (o := .cells #[.bool a0_0, .int .i64 a0_1, .slice A0_2 l0_2.length c0_2, .int .i64 a0_3, .slice A0_4 l0_4.length c0_4] 78 (0, 0)) (by (with_reducible repeat (first | refine kN_ ?_ _ | refine kD_ ?_ | refine kA_ ?_ _)); exact BK363.out) hb)
 have n1_ := Az_.mk (bT_ (by repeat (first | (with_reducible first | exact HB.out | apply bA_ | apply bN_ | apply bD_ | refine bS_ ?_ GE363.out) | exact HB.out)) hb)
 clear BK363
 clear HB
 have BK363 := n0_
 have HB := n1_
 clear n0_ n1_
 (try clear hb)
 (try clear hb2)
 (try clear hk)
 (try clear hi)
 refine hK.out _ _ ⟨(yaa_ BK363.out 0).trans rfl, (yaa_ BK363.out 1).trans rfl, (yaa_ BK363.out 2).trans rfl, (yaa_ BK363.out 3).trans rfl, (yaa_ BK363.out 4).trans rfl⟩ (fun hHeld => ?_)
 clear hK K
 refine norm_ (a' := ?_) ?_ ?_
 rotate_left
 ·show Act.put _ (some 8) _ = _
  simp only [Act.put, sA_, sZ_, sS_, i64_w, i32_w]
  rfl
 refine pure_ (i := 6) (N := some 9) (v := ?_) (a' := ?_) #[true, true, true, true, true, true, true, false] rfl rfl (any_of HT_.out (by kernel_rfl)) (fun _ _ _ h => h) (Or.inl ⟨by rfl, ?_⟩) ?_ ?_
 rotate_left
 ·intro w'
  go_simp
  with_reducible rfl
 rotate_left
 ·simp only [Act.put, sA_, sZ_, sS_, i64_w, i32_w]
  rfl
 refine pure_ (i := 7) (N := some 2) (v := ?_) (a' := ?_) #[true, true, true, true, true, true, true, true] rfl rfl (any_of HT_.out (by kernel_rfl)) (fun _ _ _ h => h) (Or.inl ⟨by rfl, ?_⟩) ?_ ?_
 rotate_left
 ·intro w'
  go_simp
  with_reducible rfl
 rotate_left
 ·simp only [Act.put, sA_, sZ_, sS_, i64_w, i32_w]
  rfl
 refine done_ (done_of HT_.out (by kernel_rfl)) ?_
 try go_wp2
 go_ret
 exact ⟨by first | rfl | (simp [yag_, yaf_] <;> rfl) | (simp [*, yag_, yaf_] <;> rfl), by repeat (first | (with_reducible first | exact HB.out | apply bA_ | apply bN_ | apply bD_ | refine bS_ ?_ GE363.out) | exact HB.out)⟩
end
section
set_option maxHeartbeats 4000000 in
set_option maxRecDepth 100000 in
theorem Greatest1_r1 {id : Nat} {a : Act} {w : World} {Q : Exit → Act → World → Prop} {gx gc gi m c : Nat} {i : Int} {ad : Addr} {x0 x1 x2 x3 x4 e0 e1 e2 e3 e4 : Value} {r : Bool}
  (hr : regionOk #[{ dst := some 5, op := Op.load 78 (Operand.tmp 3), type := 78, pos := "order.go:47", after := #[], guard := none }, { dst := some 6, op := Op.load 68 (Operand.tmp 1), type := 68, pos := "order.go:47", after := #[], guard := none }, { dst := some 7, op := Op.load 3 (Operand.tmp 2), type := 3, pos := "order.go:47", after := #[], guard := none }, { dst := some 8, op := Op.indexAddr 68 (Operand.tmp 6) (Operand.tmp 7), type := 0, pos := "order.go:47", after := #[{ on := 1, ground := Ground.data }, { on := 2, ground := Ground.data }], guard := none }, { dst := some 9, op := Op.load 78 (Operand.tmp 8), type := 78, pos := "order.go:47", after := #[{ on := 3, ground := Ground.data }], guard := none }, { dst := some 10, op := Op.call { callee := Callee.value (Operand.func 66), args := #[Operand.tmp 5, Operand.tmp 9], argTypes := #[78, 78] }, type := 4, pos := "order.go:47", after := #[{ on := 0, ground := Ground.data }, { on := 4, ground := Ground.data }], guard := none }, { dst := some 4, op := Op.assign (Operand.tmp 10), type := 4, pos := "order.go:47", after := #[{ on := 5, ground := Ground.data }, { on := 5, ground := Ground.chain }, { on := 0, ground := Ground.phase }, { on := 1, ground := Ground.phase }, { on := 2, ground := Ground.phase }, { on := 3, ground := Ground.phase }, { on := 4, ground := Ground.phase }, { on := 5, ground := Ground.phase }], guard := none }] a.tmps.size = true)
  (hT3 : a.tmps.getD 3 undef = .pointer (some ⟨gx, 0, none⟩)) (hX3 : w.heap[gx]? = some (.cells #[x0, x1, x2, x3, x4] 78 (0, 0)))
  (hT1 : a.tmps.getD 1 undef = .pointer (some ⟨gc, 0, none⟩)) (hX1 : w.heap[gc]? = some (.cells #[.slice (some ad) m c] 68 (0, 0)))
  (hT2 : a.tmps.getD 2 undef = .pointer (some ⟨gi, 0, none⟩)) (hX2 : w.heap[gi]? = some (.cells #[.int .i64 i] 3 (0, 0)))
  (hF5 : ∀ w1, Below w.heap.size w w1 → Calls Try.prog 66 #[.agg #[x0, x1, x2, x3, x4], .agg #[e0, e1, e2, e3, e4]] w1 fun e w2 => e = .returned (.bool r) ∧ Below w1.heap.size w1 w2)
  (hi : 0 ≤ i ∧ i < m) (h0 : w.cell? (ad.add (i.toNat * 5)) = some e0) (h1 : w.cell? ⟨(ad.add (i.toNat * 5)).block, (ad.add (i.toNat * 5)).off + 1, none⟩ = some e1) (h2 : w.cell? ⟨(ad.add (i.toNat * 5)).block, (ad.add (i.toNat * 5)).off + 2, none⟩ = some e2) (h3 : w.cell? ⟨(ad.add (i.toNat * 5)).block, (ad.add (i.toNat * 5)).off + 3, none⟩ = some e3) (h4 : w.cell? ⟨(ad.add (i.toNat * 5)).block, (ad.add (i.toNat * 5)).off + 4, none⟩ = some e4)
  (hK : ∀ v w', Below w.heap.size w w' → v 6 = .bool r → Q .normal { tmps := layL [some 5, some 6, some 7, some 8, some 9, some 10, some 4] 0 v a.tmps, defers := a.defers } w') :
  (Code.region id #[{ dst := some 5, op := Op.load 78 (Operand.tmp 3), type := 78, pos := "order.go:47", after := #[], guard := none }, { dst := some 6, op := Op.load 68 (Operand.tmp 1), type := 68, pos := "order.go:47", after := #[], guard := none }, { dst := some 7, op := Op.load 3 (Operand.tmp 2), type := 3, pos := "order.go:47", after := #[], guard := none }, { dst := some 8, op := Op.indexAddr 68 (Operand.tmp 6) (Operand.tmp 7), type := 0, pos := "order.go:47", after := #[{ on := 1, ground := Ground.data }, { on := 2, ground := Ground.data }], guard := none }, { dst := some 9, op := Op.load 78 (Operand.tmp 8), type := 78, pos := "order.go:47", after := #[{ on := 3, ground := Ground.data }], guard := none }, { dst := some 10, op := Op.call { callee := Callee.value (Operand.func 66), args := #[Operand.tmp 5, Operand.tmp 9], argTypes := #[78, 78] }, type := 4, pos := "order.go:47", after := #[{ on := 0, ground := Ground.data }, { on := 4, ground := Ground.data }], guard := none }, { dst := some 4, op := Op.assign (Operand.tmp 10), type := 4, pos := "order.go:47", after := #[{ on := 5, ground := Ground.data }, { on := 5, ground := Ground.chain }, { on := 0, ground := Ground.phase }, { on := 1, ground := Ground.phase }, { on := 2, ground := Ground.phase }, { on := 3, ground := Ground.phase }, { on := 4, ground := Ground.phase }, { on := 5, ground := Ground.phase }], guard := none }] true).wp Try.prog Q a w := by
 have hmx : Try.prog.follows .mixedOrders = true := by kernel_rfl
 refine region_detR 7 hmx hr (by kernel_rfl) ?_
 refine DetR.is (o := { dst := some 5, op := Op.load 78 (Operand.tmp 3), type := 78, pos := "order.go:47", after := #[], guard := none }) (u := .agg #[x0, x1, x2, x3, x4]) rfl (by decide) (fun T w' hb hd hB K hK => ?sx1) ?rx1
 case sx1 =>
  have e3 := (hB 3 (by kernel_rfl)).trans hT3
  have q3_0 : w'.cell? ⟨gx, 0, none⟩ = some (x0) := (yaa_ (kB_ hX3 hb) 0).trans rfl
  have q3_1 : w'.cell? ⟨gx, 1, none⟩ = some (x1) := (yaa_ (kB_ hX3 hb) 1).trans rfl
  have q3_2 : w'.cell? ⟨gx, 2, none⟩ = some (x2) := (yaa_ (kB_ hX3 hb) 2).trans rfl
  have q3_3 : w'.cell? ⟨gx, 3, none⟩ = some (x3) := (yaa_ (kB_ hX3 hb) 3).trans rfl
  have q3_4 : w'.cell? ⟨gx, 4, none⟩ = some (x4) := (yaa_ (kB_ hX3 hb) 4).trans rfl
  rw [if_pos (yac_ _ rfl)]
  clear hd hB
  go_simp
  exact hK _ (Below.refl _ _)
 refine DetR.is (o := { dst := some 6, op := Op.load 68 (Operand.tmp 1), type := 68, pos := "order.go:47", after := #[], guard := none }) (u := ?ux2) rfl (by decide) (fun T w' hb hd hB K hK => ?sx2) ?rx2
 case sx2 =>
  have e1 := (hB 1 (by kernel_rfl)).trans hT1
  have q1_0 : w'.cell? ⟨gc, 0, none⟩ = some (.slice (some ad) m c) := (yaa_ (kB_ hX1 hb) 0).trans rfl
  rw [if_pos (yac_ _ rfl)]
  clear hd hB
  go_simp
  exact hK _ (Below.refl _ _)
 refine DetR.is (o := { dst := some 7, op := Op.load 3 (Operand.tmp 2), type := 3, pos := "order.go:47", after := #[], guard := none }) (u := ?ux3) rfl (by decide) (fun T w' hb hd hB K hK => ?sx3) ?rx3
 case sx3 =>
  have e2 := (hB 2 (by kernel_rfl)).trans hT2
  have q2_0 : w'.cell? ⟨gi, 0, none⟩ = some (.int .i64 i) := (yaa_ (kB_ hX2 hb) 0).trans rfl
  rw [if_pos (yac_ _ rfl)]
  clear hd hB
  go_simp
  exact hK _ (Below.refl _ _)
 refine DetR.is (o := { dst := some 8, op := Op.indexAddr 68 (Operand.tmp 6) (Operand.tmp 7), type := 0, pos := "order.go:47", after := #[{ on := 1, ground := Ground.data }, { on := 2, ground := Ground.data }], guard := none }) (u := ?ux4) rfl (by decide) (fun T w' hb hd hB K hK => ?sx4) ?rx4
 case sx4 =>
  have e6 := hd 1 6 _ (by decide) (by kernel_rfl) rfl rfl
  replace e6 : T.getD 6 undef = _ := e6
  have e7 := hd 2 7 _ (by decide) (by kernel_rfl) rfl rfl
  replace e7 : T.getD 7 undef = _ := e7
  rw [if_pos (yac_ _ rfl)]
  obtain ⟨k0, k1⟩ := hi
  clear hd hB
  go_simp
  exact hK _ (Below.refl _ _)
 refine DetR.is (o := { dst := some 9, op := Op.load 78 (Operand.tmp 8), type := 78, pos := "order.go:47", after := #[{ on := 3, ground := Ground.data }], guard := none }) (u := .agg #[e0, e1, e2, e3, e4]) rfl (by decide) (fun T w' hb hd hB K hK => ?sx5) ?rx5
 case sx5 =>
  have e8 := hd 3 8 _ (by decide) (by kernel_rfl) rfl rfl
  replace e8 : T.getD 8 undef = _ := e8
  rw [if_pos (yac_ _ rfl)]
  have r0 := yad_ hb h0
  have r1 := yad_ hb h1
  have r2 := yad_ hb h2
  have r3 := yad_ hb h3
  have r4 := yad_ hb h4
  clear hd hB
  go_simp
  exact hK _ (Below.refl _ _)
 refine DetR.is (o := { dst := some 10, op := Op.call { callee := Callee.value (Operand.func 66), args := #[Operand.tmp 5, Operand.tmp 9], argTypes := #[78, 78] }, type := 4, pos := "order.go:47", after := #[{ on := 0, ground := Ground.data }, { on := 4, ground := Ground.data }], guard := none }) (u := .bool r) rfl (by decide) (fun T w' hb hd hB K hK => ?sx6) ?rx6
 case sx6 =>
  have e5 := hd 0 5 _ (by decide) (by kernel_rfl) rfl rfl
  replace e5 : T.getD 5 undef = _ := e5
  have e9 := hd 4 9 _ (by decide) (by kernel_rfl) rfl rfl
  replace e9 : T.getD 9 undef = _ := e9
  rw [if_pos (yac_ _ rfl)]
  have hcl := hF5 w' hb
  clear hd hB
  go_simp
  go_at_call 66
  refine hcl.mono ?_
  rintro e w2 ⟨rfl, h2⟩
  exact hK _ h2
 refine DetR.is (o := { dst := some 4, op := Op.assign (Operand.tmp 10), type := 4, pos := "order.go:47", after := #[{ on := 5, ground := Ground.data }, { on := 5, ground := Ground.chain }, { on := 0, ground := Ground.phase }, { on := 1, ground := Ground.phase }, { on := 2, ground := Ground.phase }, { on := 3, ground := Ground.phase }, { on := 4, ground := Ground.phase }, { on := 5, ground := Ground.phase }], guard := none }) (u := ?ux7) rfl (by decide) (fun T w' hb hd hB K hK => ?sx7) ?rx7
 case sx7 =>
  have e10 := hd 5 10 _ (by decide) (by kernel_rfl) rfl rfl
  replace e10 : T.getD 10 undef = _ := e10
  rw [if_pos (yac_ _ rfl)]
  clear hd hB
  go_simp
  exact hK _ (Below.refl _ _)
 refine DetR.done [some 5, some 6, some 7, some 8, some 9, some 10, some 4] (by kernel_rfl) rfl (by kernel_rfl) ?_
 intro v w' hb hv
 exact hK v w' hb (hv 6 _ (by decide) rfl)
theorem rd78_at (l : List S78) (k : Nat) (h : k < l.length) : rd_T78 l (k : Int) = l[k] := by
 unfold rd_T78
 simp [List.getD, List.getElem?_eq_getElem h]
set_option maxHeartbeats 4000000 in
set_option maxRecDepth 100000 in
theorem IndexFunc_L (l : List S78) (A : Option Addr) (c : Nat) (hc : l.length ≤ c) (g : Nat) (cb : Array Value) (p : Nat → Bool) (w : World) (hC : k78.C w A l.length l)
  (eg : ∀ args w1, (callFunc g args).run Try.prog w1 = .ok (.enter g args) w1)
  (hstep : ∀ j (hj : j < l.length) W, Below w.heap.size w W → ∀ A2 c2 A4 c4, l[j].f1.f1.length ≤ c2 → k30.C W A2 l[j].f1.f1.length l[j].f1.f1 → l[j].f2.f1.length ≤ c4 → k30.C W A4 l[j].f2.f1.length l[j].f2.f1 → Calls Try.prog g (#[.agg #[.bool l[j].f0, .int .i64 l[j].f1.f0, .slice A2 l[j].f1.f1.length c2, .int .i64 l[j].f2.f0, .slice A4 l[j].f2.f1.length c4]] ++ cb) W fun r w' => r = .returned (.bool (p j)) ∧ Below W.heap.size W w') :
  Calls Try.prog 107 #[.slice A l.length c, .func (.func g) #[] cb] w fun r w' => ((∃ k, k < l.length ∧ p k = true ∧ (∀ j, j < k → p j = false) ∧ r = .returned (.int .i64 (k : Int))) ∨ ((∀ j, j < l.length → p j = false) ∧ r = .returned (.int .i64 (-1)))) ∧ Below w.heap.size w w' := by
 have hmax : l.length ≤ 9223372036854775807 := hC.2.1
 have hcz := Az_.mk hC
 have hsz := Az_.mk hstep
 clear hC hstep
 go_enter Try.func107, Try.ntmps107
 go_wp2
 go_loopw [8] (fun i wr => ∃ k : Nat, k ≤ l.length ∧ i = .int .i64 k ∧ Az_ (∀ j, j < k → p j = false) ∧ Az_ (Below w.heap.size w wr)) (fun i wr => l.length - (intOf i).toNat)
 case atStart => exact ⟨0, Nat.zero_le _, rfl, ⟨fun j hj => absurd hj (Nat.not_lt_zero _)⟩, ⟨Below.refl _ _⟩⟩
 case round =>
  obtain ⟨k, hk, rfl, hp, hb⟩ := hrel
  by_cases hlt : k < l.length
  ·obtain ⟨ad, A2, c2, A4, c4, rfl, x0, x1, x2, x3, x4, l2, g2, l4, g4⟩ := at_T78 (Kd.C_below hcz.out hb.out) (k : Int) (by omega) (by omega)
   rw [rd78_at l k hlt] at x0 x1 x2 x3 x4 l2 g2 l4 g4
   rw [Int.toNat_natCast] at x0 x1 x2 x3 x4
   have hcl := Az_.mk (hsz.out k hlt wr hb.out A2 c2 A4 c4 l2 g2 l4 g4)
   generalize l[k].f0 = y0 at x0 hcl
   generalize l[k].f1.f0 = y1 at x1 hcl
   generalize l[k].f1.f1.length = y2 at x2 hcl
   generalize l[k].f2.f0 = y3 at x3 hcl
   generalize l[k].f2.f1.length = y4 at x4 hcl
   clear l2 g2 l4 g4
   cases hpk : p k with
   | false =>
    rw [hpk] at hcl
    have hpz := Az_.mk hpk
    clear hpk
    go_wp2_with (go_at_fn g; refine hcl.out.mono ?_; rintro r w3 ⟨rfl, hb3⟩; have hb4 := Az_.mk (hb.out.trans (hb3.mono hb.out.size)); clear hb3)
    go_roundw
    case rel => exact ⟨k + 1, by omega, by go_num, ⟨fun j hj => if h : j < k then hp.out j h else (show k = j by omega) ▸ hpz.out⟩, hb4⟩
    case measure => simp [intOf]; omega
   | true =>
    rw [hpk] at hcl
    have hpz := Az_.mk hpk
    clear hpk
    go_wp2_with (go_at_fn g; refine hcl.out.mono ?_; rintro r w3 ⟨rfl, hb3⟩; have hb4 := Az_.mk (hb.out.trans (hb3.mono hb.out.size)); clear hb3)
    go_ret
    exact ⟨.inl ⟨k, hlt, hpz.out, hp.out, rfl⟩, hb4.out⟩
  ·have hke : k = l.length := by omega
   subst hke
   go_wp2
   go_ret
   exact ⟨.inr ⟨hp.out, rfl⟩, hb.out⟩
set_option maxHeartbeats 4000000 in
set_option maxRecDepth 100000 in
theorem ContainsFunc_L (l : List S78) (A : Option Addr) (c : Nat) (hc : l.length ≤ c) (g : Nat) (cb : Array Value) (p : Nat → Bool) (b : Bool) (w : World) (hC : k78.C w A l.length l)
  (eg : ∀ args w1, (callFunc g args).run Try.prog w1 = .ok (.enter g args) w1)
  (hstep : ∀ j (hj : j < l.length) W, Below w.heap.size w W → ∀ A2 c2 A4 c4, l[j].f1.f1.length ≤ c2 → k30.C W A2 l[j].f1.f1.length l[j].f1.f1 → l[j].f2.f1.length ≤ c4 → k30.C W A4 l[j].f2.f1.length l[j].f2.f1 → Calls Try.prog g (#[.agg #[.bool l[j].f0, .int .i64 l[j].f1.f0, .slice A2 l[j].f1.f1.length c2, .int .i64 l[j].f2.f0, .slice A4 l[j].f2.f1.length c4]] ++ cb) W fun r w' => r = .returned (.bool (p j)) ∧ Below W.heap.size W w')
  (hr : b = true ↔ ∃ j, j < l.length ∧ p j = true) :
  Calls Try.prog 87 #[.slice A l.length c, .func (.func g) #[] cb] w fun r w' => r = .returned (.bool b) ∧ Below w.heap.size w w' := by
 have hI := Az_.mk (IndexFunc_L l A c hc g cb p w hC eg hstep)
 clear hC hstep
 cases b with
 | true =>
  obtain ⟨j, hj, hp⟩ := hr.1 rfl
  have hI2 := Az_.mk (hI.out.mono (fun x w' h => (⟨h.1.elim (fun ⟨k, hk, _, _, h2⟩ => ⟨k, hk, h2⟩) (fun h => absurd (h.1 j hj) (by rw [hp]; decide)), h.2⟩ : (∃ k, k < l.length ∧ x = .returned (.int .i64 (k : Int))) ∧ Below w.heap.size w w')))
  clear hr hp hj hI
  go_enter Try.func87, Try.ntmps87
  go_wp2_with (go_at_call 107; refine hI2.out.mono ?_; rintro x w2 ⟨⟨k, hk, rfl⟩, hi⟩; have hi2 := Az_.mk hi; have hd : decide (0 ≤ (k : Int)) = true := decide_eq_true (by omega); clear hi)
  go_ret
  exact ⟨rfl, hi2.out⟩
 | false =>
  have hno : ∀ k, k < l.length → p k = false := fun k hk => by
   cases h : p k with
   | false => rfl
   | true => exact absurd (hr.2 ⟨k, hk, h⟩) (by decide)
  have hI2 := Az_.mk (hI.out.mono (fun x w' h => (⟨h.1.elim (fun ⟨k, hk, hp, _⟩ => absurd (hno k hk) (by rw [hp]; decide)) (fun h => h.2), h.2⟩ : x = .returned (.int .i64 (-1)) ∧ Below w.heap.size w w')))
  clear hr hno hI
  go_enter Try.func87, Try.ntmps87
  go_wp2_with (go_at_call 107; refine hI2.out.mono ?_; rintro x w2 ⟨rfl, hi⟩; have hi2 := Az_.mk hi; clear hi)
  go_ret
  exact ⟨rfl, hi2.out⟩
theorem eg88 : ∀ args w1, (callFunc 88 args).run Try.prog w1 = .ok (.enter 88 args) w1 := enters_of Try.func88 (by kernel_rfl) rfl
set_option maxHeartbeats 4000000 in
set_option maxRecDepth 100000 in
theorem great88_calls (gc gi : Nat) (l : List S78) (i : Nat) (hi : i < l.length) (A : Option Addr) (c : Nat) (x : S78) (X : Option Addr) (cx : Nat) (Y : Option Addr) (cy : Nat) (r : Bool) (w : World)
  (hbc : w.heap[gc]? = some (.cells #[.slice A l.length c] 68 (0, 0))) (hbi : w.heap[gi]? = some (.cells #[.int .i64 (i : Int)] 3 (0, 0))) (hC : k78.C w A l.length l)
  (lx : x.f1.f1.length ≤ cx) (hX : k30.C w X x.f1.f1.length x.f1.f1) (ly : x.f2.f1.length ≤ cy) (hY : k30.C w Y x.f2.f1.length x.f2.f1)
  (hr : order_Greater.f x.f0 x.f1.f0 x.f1.f1 x.f2.f0 x.f2.f1 l[i].f0 l[i].f1.f0 l[i].f1.f1 l[i].f2.f0 l[i].f2.f1 = some r) :
  Calls Try.prog 88 #[.agg #[.bool x.f0, .int .i64 x.f1.f0, .slice X x.f1.f1.length cx, .int .i64 x.f2.f0, .slice Y x.f2.f1.length cy], .pointer (some ⟨gc, 0, none⟩), .pointer (some ⟨gi, 0, none⟩)] w fun z w' => z = .returned (.bool r) ∧ Below w.heap.size w w' := by
 obtain ⟨ad, A2, c2, A4, c4, rfl, x0, x1, x2, x3, x4, l2, g2, l4, g4⟩ := at_T78 hC (i : Int) (by omega) (by omega)
 rw [rd78_at l i hi] at x0 x1 x2 x3 x4 l2 g2 l4 g4
 obtain ⟨w1, hw1⟩ : ∃ w1, w1 = w.alloc (.cells #[.bool x.f0, .int .i64 x.f1.f0, .slice X x.f1.f1.length cx, .int .i64 x.f2.f0, .slice Y x.f2.f1.length cy] 78) := ⟨_, rfl⟩
 have hb1 : Below w.heap.size w w1 := by rw [hw1]; exact bA_ (Below.refl _ _) _
 have hbx : w1.heap[w.heap.size]? = some (.cells #[.bool x.f0, .int .i64 x.f1.f0, .slice X x.f1.f1.length cx, .int .i64 x.f2.f0, .slice Y x.f2.f1.length cy] 78 (0, 0)) := by rw [hw1]; exact heap_alloc_new _ _
 have F := Az_.mk (And.intro (yad_ hb1 x0) (And.intro (yad_ hb1 x1) (And.intro (yad_ hb1 x2) (And.intro (yad_ hb1 x3) (yad_ hb1 x4)))))
 have G := Az_.mk (And.intro (Kd.C_below g2 hb1) (And.intro (Kd.C_below g4 hb1) (And.intro (Kd.C_below hX hb1) (Kd.C_below hY hb1))))
 have L4 := Az_.mk (And.intro l2 (And.intro l4 (And.intro lx ly)))
 have BX := Az_.mk (And.intro hbx (And.intro (kB_ hbc hb1) (kB_ hbi hb1)))
 have HB := Az_.mk hb1
 have HW := Az_.mk hw1
 have HR := Az_.mk hr
 have HI := Az_.mk hi
 clear x0 x1 x2 x3 x4 l2 g2 l4 g4 hb1 hbx hw1 hbc hbi hC lx hX ly hY hr
 go_enter Try.func88, Try.ntmps88
 go_wp2
 rw [← HW.out]
 refine Greatest1_r1 (gx := w.heap.size) (gc := gc) (gi := gi) (m := l.length) (c := c) (i := (i : Int)) (ad := ad) (r := r) (by kernel_rfl) rfl BX.out.1 rfl BX.out.2.1 rfl BX.out.2.2 ?_ ⟨by omega, by have := HI.out; omega⟩ F.out.1 F.out.2.1 F.out.2.2.1 F.out.2.2.2.1 F.out.2.2.2.2 ?_
 ·intro w2 hb
  exact order_Greater.calls x.f0 x.f1.f0 X cx x.f1.f1 x.f2.f0 Y cy x.f2.f1 l[i].f0 l[i].f1.f0 A2 c2 l[i].f1.f1 l[i].f2.f0 A4 c4 l[i].f2.f1 r w2 (Kd.C_below G.out.2.2.1 hb) L4.out.2.2.1 (Kd.C_below G.out.2.2.2 hb) L4.out.2.2.2 (Kd.C_below G.out.1 hb) L4.out.1 (Kd.C_below G.out.2.1 hb) L4.out.2.1 HR.out
 intro v w2 hb2 hv6
 simp only [layL, Nat.reduceAdd, List.setIfInBounds_toArray, List.set_cons_zero, List.set_cons_succ, hv6]
 clear hv6
 generalize v 0 = t0
 generalize v 1 = t1
 generalize v 2 = t2
 generalize v 3 = t3
 generalize v 4 = t4
 generalize v 5 = t5
 clear v
 have HB2 := Az_.mk (HB.out.trans (hb2.mono HB.out.size))
 clear hb2
 go_wp2
 go_ret
 exact ⟨rfl, HB2.out⟩
def gr78 (x y : S78) : Option Bool := order_Greater.f x.f0 x.f1.f0 x.f1.f1 x.f2.f0 x.f2.f1 y.f0 y.f1.f0 y.f1.f1 y.f2.f0 y.f2.f1
def order_Greatest.f (l : List S78) (i : Int) : Option Bool :=
 if i < 0 ∨ (l.length : Int) ≤ i then some false else if l.all (fun x => (gr78 x (rd_T78 l i)).isSome) = true then some (!(l.any fun x => gr78 x (rd_T78 l i) == some true)) else none
set_option maxHeartbeats 4000000 in
set_option maxRecDepth 100000 in
theorem order_Greatest.calls (A0 : Option Addr) (c0 : Nat) (l0 : List S78) (a1 : Int) (r : Bool) (w : World) (hr0 : Kd.C k78 w A0 l0.length l0) (hc0 : l0.length ≤ c0) (h : order_Greatest.f l0 a1 = some r) :
  Calls Try.prog 59 #[.slice A0 l0.length c0, .int .i64 a1] w fun e w' => e = .returned (.bool r) ∧ Below w.heap.size w w' := by
 unfold order_Greatest.f at h
 by_cases h1 : a1 < 0
 ·rw [if_pos (.inl h1)] at h
  injection h with h
  subst h
  have d1 : decide (a1 < 0) = true := decide_eq_true h1
  clear h1 hr0
  go_enter Try.func59, Try.ntmps59
  go_wp2
  go_ret
  exact ⟨rfl, bA_ (bA_ (Below.refl _ _) _) _⟩
 have d1 : decide (a1 < 0) = false := decide_eq_false h1
 by_cases h2 : (l0.length : Int) ≤ a1
 ·rw [if_pos (.inr h2)] at h
  injection h with h
  subst h
  have d2 : decide ((l0.length : Int) ≤ a1) = true := decide_eq_true h2
  clear h1 h2 hr0
  go_enter Try.func59, Try.ntmps59
  go_wp2
  go_ret
  exact ⟨rfl, bA_ (bA_ (Below.refl _ _) _) _⟩
 have d2 : decide ((l0.length : Int) ≤ a1) = false := decide_eq_false h2
 rw [if_neg (fun h => h.elim h1 h2)] at h
 obtain ⟨i, rfl⟩ : ∃ i : Nat, a1 = (i : Int) := ⟨a1.toNat, by omega⟩
 have hi : i < l0.length := by omega
 rw [rd78_at l0 i hi] at h
 split at h
 ·rename_i hall
  injection h with h
  subst h
  rw [List.all_eq_true] at hall
  obtain ⟨w1, hw1⟩ : ∃ w1, w1 = (w.alloc (.cells #[.slice A0 l0.length c0] 68)).alloc (.cells #[.int .i64 (i : Int)] 3) := ⟨_, rfl⟩
  have hb1 : Below w.heap.size w w1 := by rw [hw1]; exact bA_ (bA_ (Below.refl _ _) _) _
  have hbc : w1.heap[w.heap.size]? = some (.cells #[.slice A0 l0.length c0] 68 (0, 0)) := by rw [hw1]; exact kA_ (heap_alloc_new _ _) _
  have hbi : w1.heap[w.heap.size + 1]? = some (.cells #[.int .i64 (i : Int)] 3 (0, 0)) := by
   have := heap_alloc_new (w.alloc (.cells #[.slice A0 l0.length c0] 68)) (.cells #[.int .i64 (i : Int)] 3)
   rw [World.size_alloc] at this
   rw [hw1]; exact this
  have hcf := ContainsFunc_L l0 A0 c0 hc0 88 #[.pointer (some ⟨w.heap.size, 0, none⟩), .pointer (some ⟨w.heap.size + 1, 0, none⟩)] (fun j => if h : j < l0.length then gr78 l0[j] l0[i] == some true else false) (l0.any fun x => gr78 x l0[i] == some true) w1 (Kd.C_below hr0 hb1) eg88 (fun j hj W hW A2 c2 A4 c4 g1 g2 g3 g4 => by
   rw [dif_pos hj]
   obtain ⟨b, hb⟩ := Option.isSome_iff_exists.1 (hall l0[j] (List.getElem_mem hj))
   have hbb : (gr78 l0[j] l0[i] == some true) = b := by rw [hb]; cases b <;> rfl
   rw [hbb]
   exact great88_calls w.heap.size (w.heap.size + 1) l0 i hi A0 c0 l0[j] A2 c2 A4 c4 b W (kB_ hbc hW) (kB_ hbi hW) (Kd.C_below (Kd.C_below hr0 hb1) hW) g1 g2 g3 g4 hb) (by
    rw [List.any_eq_true]
    constructor
    ·rintro ⟨x, hx, hg⟩
     obtain ⟨j, hj, rfl⟩ := List.getElem_of_mem hx
     exact ⟨j, hj, by rw [dif_pos hj]; exact hg⟩
    ·rintro ⟨j, hj, hg⟩
     rw [dif_pos hj] at hg
     exact ⟨l0[j], List.getElem_mem hj, hg⟩)
  obtain ⟨b, hb⟩ : ∃ b, b = l0.any fun x => gr78 x l0[i] == some true := ⟨_, rfl⟩
  rw [← hb] at hcf ⊢
  have HC := Az_.mk hcf
  have HW := Az_.mk hw1
  have HB := Az_.mk hb1
  clear hcf hw1 hb1 hbc hbi hall hr0 hb h1 h2
  go_enter Try.func59, Try.ntmps59
  go_wp2_with (go_at_call 87; rw [← HW.out]; refine HC.out.mono ?_; rintro z w2 ⟨rfl, hb⟩; have HB2 := Az_.mk hb; clear hb)
  go_ret
  exact ⟨rfl, HB.out.trans (HB2.out.mono HB.out.size)⟩
 ·cases h
end
section
attribute [local go_sem] max2_int min2_int max_two min_two max_three min_three max_four min_four
mutual
def order_Looked.l0 : Nat → List (S78) → Int → List (S78) → Int → Int → Option (List Int)
 | 0, _, _, _, _, _ => none
 | k + 1, x0, x3, x8, x9, x10 => if x10 < x9 then (if 0 ≤ x10 then (if x10 < (x8.length : Int) then (if (rd_T78 x8 x10).f0 = true then (if x3 < 0 then (order_Looked.l0 k x0 x10 x8 x9 (wrap64 (x10 + 1))) else ((order_weight.f ((rd_T78 x8 x10).f0) ((rd_T78 x8 x10).f1.f0) ((rd_T78 x8 x10).f1.f1) ((rd_T78 x8 x10).f2.f0) ((rd_T78 x8 x10).f2.f1)).bind fun t368 => (if 0 ≤ x3 then (if x3 < (x0.length : Int) then ((order_weight.f ((rd_T78 x0 x3).f0) ((rd_T78 x0 x3).f1.f0) ((rd_T78 x0 x3).f1.f1) ((rd_T78 x0 x3).f2.f0) ((rd_T78 x0 x3).f2.f1)).bind fun t370 => (if t368 > t370 then (order_Looked.l0 k x0 x10 x8 x9 (wrap64 (x10 + 1))) else (order_Looked.l0 k x0 x3 x8 x9 (wrap64 (x10 + 1))))) else (none)) else (none)))) else (order_Looked.l0 k x0 x3 x8 x9 (wrap64 (x10 + 1)))) else (none)) else (none)) else (if x3 ≥ 0 then (some (([x3] : List Int))) else (order_Looked.l1 k x0 ([] : List Int) (x0.length : Int) 0))
def order_Looked.l1 : Nat → List (S78) → List Int → Int → Int → Option (List Int)
 | 0, _, _, _, _ => none
 | k + 1, x0, x6, x38, x39 => if x39 < x38 then ((order_Greatest.f x0 x39).bind fun t374 => (if t374 = true then (if x6.length < 17592186044416 then (order_Looked.l1 k x0 (x6 ++ [x39]) x38 (wrap64 (x39 + 1))) else (none)) else (order_Looked.l1 k x0 x6 x38 (wrap64 (x39 + 1))))) else (some x6)
end
def order_Looked.f (k : Nat) (l0 : List (S78)) : Option (List Int) := order_Looked.l0 k l0 (-1) l0 (l0.length : Int) 0
def order_Looked.T5 : Bool × List (List Nat × List Nat) := (true, [([], []), ([0], [0]), ([1], [1]), ([2], [2]), ([3, 2], [2, 3]), ([4, 2, 2], [2, 4]), ([5], [5]), ([6, 5, 5], [5, 6]), ([5], [5]), ([5], [5]), ([8, 9, 5], [5, 8, 9]), ([10, 5], [5, 10]), ([11, 7, 5], [5, 11]), ([7, 12, 5], [5, 7, 12]), ([5, 13, 2], [2, 5, 13]), ([2, 14], [2, 14])])
def order_Looked.B5 : List Nat := [0, 1, 3, 7, 15, 31, 63, 127, 63, 63, 831, 1855, 4095, 8191, 16383, 32767]
theorem order_Looked.tab5 : rtab .any (opsOf Try.f58 5) = order_Looked.T5 := by kernel_rfl
theorem order_Looked.bits5 : waitsOk order_Looked.T5.2 order_Looked.B5 = true := by kernel_rfl
set_option maxHeartbeats 8000000 in
set_option maxRecDepth 100000 in
theorem order_Looked.calls (k : Nat) (A0 : Option Addr) (c0 : Nat) (l0 : List (S78)) (r : List Int) (w : World) (hr0 : Kd.C k78 w A0 l0.length l0) (hc0 : l0.length ≤ c0) (h : order_Looked.f k l0 = some r) :
  Calls Try.prog 58 #[.slice A0 l0.length c0] w fun e w' => ∃ v0_ : Value, e = .returned (v0_) ∧ Kd.R (Kd.int .i64) 3 w' w.heap.size (fun _ => True) v0_ r ∧ Below w.heap.size w w' := by
 have hu78 := Try.underlying78
 have HR0 := Az_.mk hr0
 have HC0 := Az_.mk hc0
 clear hr0 hc0
 have HB := Az_.mk (Below.refl w.heap.size w)
 have H : (order_Looked.l0 k l0 (-1) l0 (l0.length : Int) 0) = some r := h
 clear h
 have H' := Az_.mk H
 clear H
 go_enter Try.func58, Try.ntmps58
 go_wp2
 go_loopg [3, 10] k (fun kq v3 v10 w' => ∃ (x3_1 : Int) (x10_1 : Int), v3 = .int .i64 x3_1 ∧ v10 = .int .i64 x10_1 ∧ Az_ (order_Looked.l0 kq l0 x3_1 l0 (l0.length : Int) x10_1 = some r) ∧ Az_ (kq ≤ k) ∧ Az_ (Below w.heap.size w w'))
 case atStart => exact ⟨((-1)), (0), (by first | rfl | (simp; done) | (simp [*]; done)), (by first | rfl | (simp; done) | (simp [*]; done)), H', ⟨Nat.le_refl _⟩, ⟨by repeat (first | (with_reducible first | exact HB.out | apply bA_ | apply bN_ | apply bD_) | exact HB.out)⟩⟩
 case round =>
  clear H'
  obtain ⟨x3_1, x10_1, rfl, rfl, HA, HK1, HB⟩ := hrel
  cases gk with
  | zero => exact absurd HA.out (by simp [order_Looked.l0])
  | succ k1 =>
   have H := HA.out
   clear HA
   simp only [order_Looked.l0] at H
   by_cases c2 : x10_1 < (l0.length : Int)
   ·rw [if_pos c2] at H
    have c2b0 : decide (x10_1 < (l0.length : Int)) = true := decide_eq_true c2
    clear c2
    by_cases c3 : 0 ≤ x10_1
    ·rw [if_pos c3] at H
     have c3b0 : decide (0 ≤ x10_1) = true := decide_eq_true c3
     clear c3
     by_cases c4 : x10_1 < (l0.length : Int)
     ·rw [if_pos c4] at H
      have c4b0 : decide (x10_1 < (l0.length : Int)) = true := decide_eq_true c4
      clear c4
      obtain ⟨bq5, hbq5⟩ : ∃ b_ : Bool, b_ = ((rd_T78 l0 x10_1).f0) := ⟨_, rfl⟩
      replace H : (if bq5 = true then (if x3_1 < 0 then (order_Looked.l0 k1 l0 x10_1 l0 (l0.length : Int) (wrap64 (x10_1 + 1))) else ((order_weight.f (bq5) ((rd_T78 l0 x10_1).f1.f0) ((rd_T78 l0 x10_1).f1.f1) ((rd_T78 l0 x10_1).f2.f0) ((rd_T78 l0 x10_1).f2.f1)).bind fun t368 => (if 0 ≤ x3_1 then (if x3_1 < (l0.length : Int) then ((order_weight.f ((rd_T78 l0 x3_1).f0) ((rd_T78 l0 x3_1).f1.f0) ((rd_T78 l0 x3_1).f1.f1) ((rd_T78 l0 x3_1).f2.f0) ((rd_T78 l0 x3_1).f2.f1)).bind fun t370 => (if t368 > t370 then (order_Looked.l0 k1 l0 x10_1 l0 (l0.length : Int) (wrap64 (x10_1 + 1))) else (order_Looked.l0 k1 l0 x3_1 l0 (l0.length : Int) (wrap64 (x10_1 + 1))))) else (none)) else (none)))) else (order_Looked.l0 k1 l0 x3_1 l0 (l0.length : Int) (wrap64 (x10_1 + 1)))) = some r := by rw [← hbq5] at H; exact H
      have Nbq5 := Az_.mk hbq5
      clear hbq5
      by_cases c6 : bq5 = true
      ·subst c6
       have H1 : (if x3_1 < 0 then (order_Looked.l0 k1 l0 x10_1 l0 (l0.length : Int) (wrap64 (x10_1 + 1))) else ((order_weight.f (true) ((rd_T78 l0 x10_1).f1.f0) ((rd_T78 l0 x10_1).f1.f1) ((rd_T78 l0 x10_1).f2.f0) ((rd_T78 l0 x10_1).f2.f1)).bind fun t368 => (if 0 ≤ x3_1 then (if x3_1 < (l0.length : Int) then ((order_weight.f ((rd_T78 l0 x3_1).f0) ((rd_T78 l0 x3_1).f1.f0) ((rd_T78 l0 x3_1).f1.f1) ((rd_T78 l0 x3_1).f2.f0) ((rd_T78 l0 x3_1).f2.f1)).bind fun t370 => (if t368 > t370 then (order_Looked.l0 k1 l0 x10_1 l0 (l0.length : Int) (wrap64 (x10_1 + 1))) else (order_Looked.l0 k1 l0 x3_1 l0 (l0.length : Int) (wrap64 (x10_1 + 1))))) else (none)) else (none)))) = some r := by rw [if_pos rfl] at H; exact H
       clear H
       have H := H1
       clear H1
       by_cases c7 : x3_1 < 0
       ·rw [if_pos c7] at H
        have c7b0 : decide (x3_1 < 0) = true := decide_eq_true c7
        clear c7
        have H' := Az_.mk H
        clear H
        have p366 : 0 ≤ (x10_1 : Int) := of_decide_eq_true (by first | (with_reducible assumption) | assumption)
        have q366 : x10_1 < (l0.length : Int) := of_decide_eq_true (by first | (with_reducible assumption) | assumption)
        obtain ⟨ad366, A366_2, c366_2, A366_4, c366_4, e366, hx366_0, hx366_1, hx366_2, hx366_3, hx366_4, hl366_2, hi366_2, hl366_4, hi366_4⟩ := at_T78 HR0.out x10_1 p366 q366
        (try rw [← Nbq5.out] at hx366_0)
        cases e366
        replace hx366_0 := (HB.out.cell (World.block_lt_of_cell? w _ hx366_0)).trans hx366_0
        replace hx366_1 := (HB.out.cell (World.block_lt_of_cell? w _ hx366_1)).trans hx366_1
        replace hx366_2 := (HB.out.cell (World.block_lt_of_cell? w _ hx366_2)).trans hx366_2
        replace hx366_3 := (HB.out.cell (World.block_lt_of_cell? w _ hx366_3)).trans hx366_3
        replace hx366_4 := (HB.out.cell (World.block_lt_of_cell? w _ hx366_4)).trans hx366_4
        have HR366_2 := Az_.mk hi366_2
        have HC366_2 := Az_.mk hl366_2
        clear hi366_2 hl366_2
        have HR366_4 := Az_.mk hi366_4
        have HC366_4 := Az_.mk hl366_4
        clear hi366_4 hl366_4
        replace p366 := eq_true p366
        replace q366 := eq_true q366
        try go_wp2_with (first | ((with_reducible refine yak_ (N := 5) rfl ?_); refine yaj_ ?hg (N := 5) ?hd (cs := #[.bool false, .int .i64 0, .slice none 0 0, .int .i64 0, .slice none 0 0]) (t := 78) ?hr ?_; (case hd => rfl); (case hg => rfl); (case hr => first | (go_simp; done) | (go_simp; rfl)); intro gb367 hg w8 hbox hb; have n0_ := Az_.mk (bT_ (by repeat (first | (with_reducible first | exact HB.out | apply bA_ | apply bN_ | apply bD_) | exact HB.out)) hb); have n1_ := Az_.mk (hbox); have n2_ := Az_.mk ((by rw [hg]; exact (bZ_ (by repeat (first | (with_reducible first | exact HB.out | apply bA_ | apply bN_ | apply bD_) | exact HB.out))) : w.heap.size ≤ gb367)); have n3_ := Az_.mk ((by rw [hg]; exact (bZ_ (by repeat (first | (with_reducible first | exact HB.out | apply bA_ | apply bN_ | apply bD_) | exact HB.out))) : w.heap.size ≤ gb367)); clear HB; have HB := n0_; have BK367 := n1_; have GW367 := n2_; have GE367 := n3_; clear n0_ n1_ n2_ n3_; clear hb hbox hg; have hcz9_0 : w8.cell? ⟨gb367, 0, none⟩ = some (.bool false) := (yaa_ BK367.out 0).trans rfl; have hcz9_1 : w8.cell? ⟨gb367, 1, none⟩ = some (.int .i64 0) := (yaa_ BK367.out 1).trans rfl; have hcz9_2 : w8.cell? ⟨gb367, 2, none⟩ = some (.slice none 0 0) := (yaa_ BK367.out 2).trans rfl; have hcz9_3 : w8.cell? ⟨gb367, 3, none⟩ = some (.int .i64 0) := (yaa_ BK367.out 3).trans rfl; have hcz9_4 : w8.cell? ⟨gb367, 4, none⟩ = some (.slice none 0 0) := (yaa_ BK367.out 4).trans rfl; have hfz9_0 := yab_ BK367.out 0; have hfz9_1 := yab_ BK367.out 1; have hfz9_2 := yab_ BK367.out 2; have hfz9_3 := yab_ BK367.out 3; have hfz9_4 := yab_ BK367.out 4))
        have n0_ : Az_ ((((((w8.setCell ⟨gb367, 0, none⟩ (.bool true)).setCell ⟨gb367, 1, none⟩ (.int .i64 ((rd_T78 l0 x10_1).f1.f0))).setCell ⟨gb367, 2, none⟩ (.slice A366_2 ((rd_T78 l0 x10_1).f1.f1).length c366_2)).setCell ⟨gb367, 3, none⟩ (.int .i64 ((rd_T78 l0 x10_1).f2.f0))).setCell ⟨gb367, 4, none⟩ (.slice A366_4 ((rd_T78 l0 x10_1).f2.f1).length c366_4)).heap[gb367]? = some (.cells #[.bool true, .int .i64 ((rd_T78 l0 x10_1).f1.f0), .slice A366_2 ((rd_T78 l0 x10_1).f1.f1).length c366_2, .int .i64 ((rd_T78 l0 x10_1).f2.f0), .slice A366_4 ((rd_T78 l0 x10_1).f2.f1).length c366_4] 78 (0, 0))) := ⟨by (with_reducible repeat (first | refine kN_ ?_ _ | refine kD_ ?_ | refine kA_ ?_ _)); refine blk_put (cs := #[.bool true, .int .i64 ((rd_T78 l0 x10_1).f1.f0), .slice A366_2 ((rd_T78 l0 x10_1).f1.f1).length c366_2, .int .i64 ((rd_T78 l0 x10_1).f2.f0), .slice none 0 0]) ?_ 4 _ rfl; (with_reducible repeat (first | refine kN_ ?_ _ | refine kD_ ?_ | refine kA_ ?_ _)); refine blk_put (cs := #[.bool true, .int .i64 ((rd_T78 l0 x10_1).f1.f0), .slice A366_2 ((rd_T78 l0 x10_1).f1.f1).length c366_2, .int .i64 0, .slice none 0 0]) ?_ 3 _ rfl; (with_reducible repeat (first | refine kN_ ?_ _ | refine kD_ ?_ | refine kA_ ?_ _)); refine blk_put (cs := #[.bool true, .int .i64 ((rd_T78 l0 x10_1).f1.f0), .slice none 0 0, .int .i64 0, .slice none 0 0]) ?_ 2 _ rfl; (with_reducible repeat (first | refine kN_ ?_ _ | refine kD_ ?_ | refine kA_ ?_ _)); refine blk_put (cs := #[.bool true, .int .i64 0, .slice none 0 0, .int .i64 0, .slice none 0 0]) ?_ 1 _ rfl; (with_reducible repeat (first | refine kN_ ?_ _ | refine kD_ ?_ | refine kA_ ?_ _)); refine blk_put (cs := #[.bool false, .int .i64 0, .slice none 0 0, .int .i64 0, .slice none 0 0]) ?_ 0 _ rfl; (with_reducible repeat (first | refine kN_ ?_ _ | refine kD_ ?_ | refine kA_ ?_ _)); exact BK367.out⟩
        have n1_ : Az_ (Below w.heap.size w (((((w8.setCell ⟨gb367, 0, none⟩ (.bool true)).setCell ⟨gb367, 1, none⟩ (.int .i64 ((rd_T78 l0 x10_1).f1.f0))).setCell ⟨gb367, 2, none⟩ (.slice A366_2 ((rd_T78 l0 x10_1).f1.f1).length c366_2)).setCell ⟨gb367, 3, none⟩ (.int .i64 ((rd_T78 l0 x10_1).f2.f0))).setCell ⟨gb367, 4, none⟩ (.slice A366_4 ((rd_T78 l0 x10_1).f2.f1).length c366_4))) := ⟨by repeat (first | (with_reducible first | exact HB.out | apply bA_ | apply bN_ | apply bD_ | refine bS_ ?_ GE367.out) | exact HB.out)⟩
        (try clear BK367)
        (try clear HB)
        generalize (((((w8.setCell ⟨gb367, 0, none⟩ (.bool true)).setCell ⟨gb367, 1, none⟩ (.int .i64 ((rd_T78 l0 x10_1).f1.f0))).setCell ⟨gb367, 2, none⟩ (.slice A366_2 ((rd_T78 l0 x10_1).f1.f1).length c366_2)).setCell ⟨gb367, 3, none⟩ (.int .i64 ((rd_T78 l0 x10_1).f2.f0))).setCell ⟨gb367, 4, none⟩ (.slice A366_4 ((rd_T78 l0 x10_1).f2.f1).length c366_4)) = w10 at n0_ n1_ ⊢
        have BK367 := n0_
        have HB := n1_
        clear n0_ n1_
        have n0_ := Az_.mk (kD_ BK367.out)
        have n1_ := Az_.mk (bD_ HB.out)
        clear BK367
        clear HB
        have BK367 := n0_
        have HB := n1_
        clear n0_ n1_
        refine start_ (n := 16) (S := fun w' => w'.cell? ⟨gb367, 0, none⟩ = some (.bool true) ∧ w'.cell? ⟨gb367, 1, none⟩ = some (.int .i64 ((rd_T78 l0 x10_1).f1.f0)) ∧ w'.cell? ⟨gb367, 2, none⟩ = some (.slice A366_2 ((rd_T78 l0 x10_1).f1.f1).length c366_2) ∧ w'.cell? ⟨gb367, 3, none⟩ = some (.int .i64 ((rd_T78 l0 x10_1).f2.f0)) ∧ w'.cell? ⟨gb367, 4, none⟩ = some (.slice A366_4 ((rd_T78 l0 x10_1).f2.f1).length c366_4)) (ds := []) #[false, false, false, false, false, false, false, false, false, false, false, false, false, false, false, false] (by kernel_rfl) rfl rfl ⟨(yaa_ BK367.out 0).trans rfl, (yaa_ BK367.out 1).trans rfl, (yaa_ BK367.out 2).trans rfl, (yaa_ BK367.out 3).trans rfl, (yaa_ BK367.out 4).trans rfl⟩ (fun hHeld => ?_); refine with_tabW order_Looked.tab5 order_Looked.bits5 (fun HT_ HW_ => ?_)
        generalize w10.drew = w11 at BK367 HB hHeld ⊢
        refine pure_ (i := 0) (N := some 15) (v := ?_) (a' := ?_) #[true, false, false, false, false, false, false, false, false, false, false, false, false, false, false, false] rfl rfl (any_of HT_.out (by kernel_rfl)) (fun _ _ _ h => h) (Or.inl ⟨by rfl, ?_⟩) ?_ ?_
        rotate_left
        ·intro w'
         go_simp
         with_reducible rfl
        rotate_left
        ·simp only [Act.put, sA_, sZ_, sS_, i64_w, i32_w]
         rfl
        refine take_ (i := 1) (N := some 16) (v := ?_) (a' := ?_) #[true, true, false, false, false, false, false, false, false, false, false, false, false, false, false, false] rfl rfl (take_ofW HT_.out HW_.out (by kernel_rfl)) (fun _ _ _ h => h) (Or.inl ⟨by rfl, ?_⟩) hHeld ?_ ?_
        rotate_left
        ·rintro w' ⟨s0, s1, s2, s3, s4⟩
         go_simp
         with_reducible rfl
        rotate_left
        ·simp only [Act.put, sA_, sZ_, sS_, i64_w, i32_w]
         rfl
        refine pure_ (i := 2) (N := some 17) (v := ?_) (a' := ?_) #[true, true, true, false, false, false, false, false, false, false, false, false, false, false, false, false] rfl rfl (any_of HT_.out (by kernel_rfl)) (fun _ _ _ h => h) (Or.inl ⟨by rfl, ?_⟩) ?_ ?_
        rotate_left
        ·intro w'
         go_simp
         with_reducible rfl
        rotate_left
        ·simp only [Act.put, sA_, sZ_, sS_, i64_w, i32_w]
         rfl
        refine pure_ (i := 3) (N := some 18) (v := ?_) (a' := ?_) #[true, true, true, true, false, false, false, false, false, false, false, false, false, false, false, false] rfl rfl (any_of HT_.out (by kernel_rfl)) (fun _ _ _ h => h) (Or.inl ⟨by rfl, ?_⟩) ?_ ?_
        rotate_left
        ·intro w'
         go_simp
         with_reducible rfl
        rotate_left
        ·simp only [Act.put, sA_, sZ_, sS_, i64_w, i32_w]
         rfl
        refine pure_ (i := 4) (N := some 19) (v := ?_) (a' := ?_) #[true, true, true, true, true, false, false, false, false, false, false, false, false, false, false, false] rfl rfl (any_of HT_.out (by kernel_rfl)) (fun _ _ _ h => h) (Or.inl ⟨by rfl, ?_⟩) ?_ ?_
        rotate_left
        ·intro w'
         go_simp
         with_reducible rfl
        rotate_left
        ·simp only [Act.put, sA_, sZ_, sS_, i64_w, i32_w]
         rfl
        refine pure_ (i := 5) (N := some 20) (v := ?_) (a' := ?_) #[true, true, true, true, true, true, false, false, false, false, false, false, false, false, false, false] rfl rfl (any_of HT_.out (by kernel_rfl)) (fun _ _ _ h => h) (Or.inl ⟨by rfl, ?_⟩) ?_ ?_
        rotate_left
        ·intro w'
         go_simp
         with_reducible rfl
        rotate_left
        ·simp only [Act.put, sA_, sZ_, sS_, i64_w, i32_w]
         rfl
        refine pure_ (i := 6) (N := some 21) (v := undef) (a' := ?_) #[true, true, true, true, true, true, true, false, false, false, false, false, false, false, false, false] rfl rfl (any_of HT_.out (by kernel_rfl)) (fun _ _ _ h => h) (Or.inr ⟨by rfl, rfl⟩) ?_ ?_
        rotate_left
        ·simp only [Act.put, sA_, sZ_, sS_, i64_w, i32_w]
         rfl
        refine pure_ (i := 7) (N := some 22) (v := undef) (a' := ?_) #[true, true, true, true, true, true, true, true, false, false, false, false, false, false, false, false] rfl rfl (any_of HT_.out (by kernel_rfl)) (fun _ _ _ h => h) (Or.inr ⟨by rfl, rfl⟩) ?_ ?_
        rotate_left
        ·simp only [Act.put, sA_, sZ_, sS_, i64_w, i32_w]
         rfl
        refine pure_ (i := 8) (N := some 23) (v := undef) (a' := ?_) #[true, true, true, true, true, true, true, true, true, false, false, false, false, false, false, false] rfl rfl (any_of HT_.out (by kernel_rfl)) (fun _ _ _ h => h) (Or.inr ⟨by rfl, rfl⟩) ?_ ?_
        rotate_left
        ·simp only [Act.put, sA_, sZ_, sS_, i64_w, i32_w]
         rfl
        refine pure_ (i := 9) (N := some 24) (v := undef) (a' := ?_) #[true, true, true, true, true, true, true, true, true, true, false, false, false, false, false, false] rfl rfl (any_of HT_.out (by kernel_rfl)) (fun _ _ _ h => h) (Or.inr ⟨by rfl, rfl⟩) ?_ ?_
        rotate_left
        ·simp only [Act.put, sA_, sZ_, sS_, i64_w, i32_w]
         rfl
        refine pure_ (i := 10) (N := some 25) (v := undef) (a' := ?_) #[true, true, true, true, true, true, true, true, true, true, true, false, false, false, false, false] rfl rfl (any_of HT_.out (by kernel_rfl)) (fun _ _ _ h => h) (Or.inr ⟨by rfl, rfl⟩) ?_ ?_
        rotate_left
        ·simp only [Act.put, sA_, sZ_, sS_, i64_w, i32_w]
         rfl
        refine pure_ (i := 11) (N := some 26) (v := undef) (a' := ?_) #[true, true, true, true, true, true, true, true, true, true, true, true, false, false, false, false] rfl rfl (any_of HT_.out (by kernel_rfl)) (fun _ _ _ h => h) (Or.inr ⟨by rfl, rfl⟩) ?_ ?_
        rotate_left
        ·simp only [Act.put, sA_, sZ_, sS_, i64_w, i32_w]
         rfl
        refine pure_ (i := 12) (N := some 27) (v := undef) (a' := ?_) #[true, true, true, true, true, true, true, true, true, true, true, true, true, false, false, false] rfl rfl (any_of HT_.out (by kernel_rfl)) (fun _ _ _ h => h) (Or.inr ⟨by rfl, rfl⟩) ?_ ?_
        rotate_left
        ·simp only [Act.put, sA_, sZ_, sS_, i64_w, i32_w]
         rfl
        refine pure_ (i := 13) (N := some 28) (v := undef) (a' := ?_) #[true, true, true, true, true, true, true, true, true, true, true, true, true, true, false, false] rfl rfl (any_of HT_.out (by kernel_rfl)) (fun _ _ _ h => h) (Or.inr ⟨by rfl, rfl⟩) ?_ ?_
        rotate_left
        ·simp only [Act.put, sA_, sZ_, sS_, i64_w, i32_w]
         rfl
        refine pure_ (i := 14) (N := some 29) (v := ?_) (a' := ?_) #[true, true, true, true, true, true, true, true, true, true, true, true, true, true, true, false] rfl rfl (any_of HT_.out (by kernel_rfl)) (fun _ _ _ h => h) (Or.inl ⟨by rfl, ?_⟩) ?_ ?_
        rotate_left
        ·intro w'
         go_simp
         with_reducible rfl
        rotate_left
        ·simp only [Act.put, sA_, sZ_, sS_, i64_w, i32_w]
         rfl
        refine pure_ (i := 15) (N := some 30) (v := ?_) (a' := ?_) #[true, true, true, true, true, true, true, true, true, true, true, true, true, true, true, true] rfl rfl (any_of HT_.out (by kernel_rfl)) (fun _ _ _ h => h) (Or.inl ⟨by rfl, ?_⟩) ?_ ?_
        rotate_left
        ·intro w'
         go_simp
         with_reducible rfl
        rotate_left
        ·simp only [Act.put, sA_, sZ_, sS_, i64_w, i32_w]
         rfl
        refine done_ (done_of HT_.out (by kernel_rfl)) ?_
        try go_wp2
        go_roundg k1
        case measure => have := HK1.out; omega
        case rel => exact ⟨(x10_1), (wrap64 (x10_1 + 1)), (by first | rfl | (simp; done) | (simp [*]; done)), (by first | rfl | (simp; done) | (simp [*]; done)), H', ⟨by have := HK1.out; omega⟩, ⟨by repeat (first | (with_reducible first | exact HB.out | apply bA_ | apply bN_ | apply bD_ | refine bS_ ?_ GE367.out) | exact HB.out)⟩⟩
       ·rw [if_neg c7] at H
        have c7b0 : decide (x3_1 < 0) = false := decide_eq_false c7
        clear c7
        replace H := Option.bind_eq_some_iff.mp H
        obtain ⟨t368, A120, H⟩ := H
        replace H : (if 0 ≤ x3_1 then (if x3_1 < (l0.length : Int) then ((order_weight.f ((rd_T78 l0 x3_1).f0) ((rd_T78 l0 x3_1).f1.f0) ((rd_T78 l0 x3_1).f1.f1) ((rd_T78 l0 x3_1).f2.f0) ((rd_T78 l0 x3_1).f2.f1)).bind fun t370 => (if t368 > t370 then (order_Looked.l0 k1 l0 x10_1 l0 (l0.length : Int) (wrap64 (x10_1 + 1))) else (order_Looked.l0 k1 l0 x3_1 l0 (l0.length : Int) (wrap64 (x10_1 + 1))))) else (none)) else (none)) = some r := H
        have A12 := Az_.mk A120
        clear A120
        by_cases c13 : 0 ≤ x3_1
        ·rw [if_pos c13] at H
         have c13b0 : decide (0 ≤ x3_1) = true := decide_eq_true c13
         clear c13
         by_cases c14 : x3_1 < (l0.length : Int)
         ·rw [if_pos c14] at H
          have c14b0 : decide (x3_1 < (l0.length : Int)) = true := decide_eq_true c14
          clear c14
          replace H := Option.bind_eq_some_iff.mp H
          obtain ⟨t370, A150, H⟩ := H
          replace H : (if t368 > t370 then (order_Looked.l0 k1 l0 x10_1 l0 (l0.length : Int) (wrap64 (x10_1 + 1))) else (order_Looked.l0 k1 l0 x3_1 l0 (l0.length : Int) (wrap64 (x10_1 + 1)))) = some r := H
          have A15 := Az_.mk A150
          clear A150
          by_cases c16 : t368 > t370
          ·rw [if_pos c16] at H
           have c16b0 : decide (t370 < t368) = true := decide_eq_true c16
           clear c16
           have H' := Az_.mk H
           clear H
           have p366 : 0 ≤ (x10_1 : Int) := of_decide_eq_true (by first | (with_reducible assumption) | assumption)
           have q366 : x10_1 < (l0.length : Int) := of_decide_eq_true (by first | (with_reducible assumption) | assumption)
           obtain ⟨ad366, A366_2, c366_2, A366_4, c366_4, e366, hx366_0, hx366_1, hx366_2, hx366_3, hx366_4, hl366_2, hi366_2, hl366_4, hi366_4⟩ := at_T78 HR0.out x10_1 p366 q366
           (try rw [← Nbq5.out] at hx366_0)
           cases e366
           replace hx366_0 := (HB.out.cell (World.block_lt_of_cell? w _ hx366_0)).trans hx366_0
           replace hx366_1 := (HB.out.cell (World.block_lt_of_cell? w _ hx366_1)).trans hx366_1
           replace hx366_2 := (HB.out.cell (World.block_lt_of_cell? w _ hx366_2)).trans hx366_2
           replace hx366_3 := (HB.out.cell (World.block_lt_of_cell? w _ hx366_3)).trans hx366_3
           replace hx366_4 := (HB.out.cell (World.block_lt_of_cell? w _ hx366_4)).trans hx366_4
           have HR366_2 := Az_.mk hi366_2
           have HC366_2 := Az_.mk hl366_2
           clear hi366_2 hl366_2
           have HR366_4 := Az_.mk hi366_4
           have HC366_4 := Az_.mk hl366_4
           clear hi366_4 hl366_4
           replace p366 := eq_true p366
           replace q366 := eq_true q366
           try go_wp2_with (first | ((with_reducible refine yak_ (N := 5) rfl ?_); refine yaj_ ?hg (N := 5) ?hd (cs := #[.bool false, .int .i64 0, .slice none 0 0, .int .i64 0, .slice none 0 0]) (t := 78) ?hr ?_; (case hd => rfl); (case hg => rfl); (case hr => first | (go_simp; done) | (go_simp; rfl)); intro gb367 hg w17 hbox hb; have n0_ := Az_.mk (bT_ (by repeat (first | (with_reducible first | exact HB.out | apply bA_ | apply bN_ | apply bD_) | exact HB.out)) hb); have n1_ := Az_.mk (hbox); have n2_ := Az_.mk ((by rw [hg]; exact (bZ_ (by repeat (first | (with_reducible first | exact HB.out | apply bA_ | apply bN_ | apply bD_) | exact HB.out))) : w.heap.size ≤ gb367)); have n3_ := Az_.mk ((by rw [hg]; exact (bZ_ (by repeat (first | (with_reducible first | exact HB.out | apply bA_ | apply bN_ | apply bD_) | exact HB.out))) : w.heap.size ≤ gb367)); clear HB; have HB := n0_; have BK367 := n1_; have GW367 := n2_; have GE367 := n3_; clear n0_ n1_ n2_ n3_; clear hb hbox hg; have hcz18_0 : w17.cell? ⟨gb367, 0, none⟩ = some (.bool false) := (yaa_ BK367.out 0).trans rfl; have hcz18_1 : w17.cell? ⟨gb367, 1, none⟩ = some (.int .i64 0) := (yaa_ BK367.out 1).trans rfl; have hcz18_2 : w17.cell? ⟨gb367, 2, none⟩ = some (.slice none 0 0) := (yaa_ BK367.out 2).trans rfl; have hcz18_3 : w17.cell? ⟨gb367, 3, none⟩ = some (.int .i64 0) := (yaa_ BK367.out 3).trans rfl; have hcz18_4 : w17.cell? ⟨gb367, 4, none⟩ = some (.slice none 0 0) := (yaa_ BK367.out 4).trans rfl; have hfz18_0 := yab_ BK367.out 0; have hfz18_1 := yab_ BK367.out 1; have hfz18_2 := yab_ BK367.out 2; have hfz18_3 := yab_ BK367.out 3; have hfz18_4 := yab_ BK367.out 4))
           have n0_ : Az_ ((((((w17.setCell ⟨gb367, 0, none⟩ (.bool true)).setCell ⟨gb367, 1, none⟩ (.int .i64 ((rd_T78 l0 x10_1).f1.f0))).setCell ⟨gb367, 2, none⟩ (.slice A366_2 ((rd_T78 l0 x10_1).f1.f1).length c366_2)).setCell ⟨gb367, 3, none⟩ (.int .i64 ((rd_T78 l0 x10_1).f2.f0))).setCell ⟨gb367, 4, none⟩ (.slice A366_4 ((rd_T78 l0 x10_1).f2.f1).length c366_4)).heap[gb367]? = some (.cells #[.bool true, .int .i64 ((rd_T78 l0 x10_1).f1.f0), .slice A366_2 ((rd_T78 l0 x10_1).f1.f1).length c366_2, .int .i64 ((rd_T78 l0 x10_1).f2.f0), .slice A366_4 ((rd_T78 l0 x10_1).f2.f1).length c366_4] 78 (0, 0))) := ⟨by (with_reducible repeat (first | refine kN_ ?_ _ | refine kD_ ?_ | refine kA_ ?_ _)); refine blk_put (cs := #[.bool true, .int .i64 ((rd_T78 l0 x10_1).f1.f0), .slice A366_2 ((rd_T78 l0 x10_1).f1.f1).length c366_2, .int .i64 ((rd_T78 l0 x10_1).f2.f0), .slice none 0 0]) ?_ 4 _ rfl; (with_reducible repeat (first | refine kN_ ?_ _ | refine kD_ ?_ | refine kA_ ?_ _)); refine blk_put (cs := #[.bool true, .int .i64 ((rd_T78 l0 x10_1).f1.f0), .slice A366_2 ((rd_T78 l0 x10_1).f1.f1).length c366_2, .int .i64 0, .slice none 0 0]) ?_ 3 _ rfl; (with_reducible repeat (first | refine kN_ ?_ _ | refine kD_ ?_ | refine kA_ ?_ _)); refine blk_put (cs := #[.bool true, .int .i64 ((rd_T78 l0 x10_1).f1.f0), .slice none 0 0, .int .i64 0, .slice none 0 0]) ?_ 2 _ rfl; (with_reducible repeat (first | refine kN_ ?_ _ | refine kD_ ?_ | refine kA_ ?_ _)); refine blk_put (cs := #[.bool true, .int .i64 0, .slice none 0 0, .int .i64 0, .slice none 0 0]) ?_ 1 _ rfl; (with_reducible repeat (first | refine kN_ ?_ _ | refine kD_ ?_ | refine kA_ ?_ _)); refine blk_put (cs := #[.bool false, .int .i64 0, .slice none 0 0, .int .i64 0, .slice none 0 0]) ?_ 0 _ rfl; (with_reducible repeat (first | refine kN_ ?_ _ | refine kD_ ?_ | refine kA_ ?_ _)); exact BK367.out⟩
           have n1_ : Az_ (Below w.heap.size w (((((w17.setCell ⟨gb367, 0, none⟩ (.bool true)).setCell ⟨gb367, 1, none⟩ (.int .i64 ((rd_T78 l0 x10_1).f1.f0))).setCell ⟨gb367, 2, none⟩ (.slice A366_2 ((rd_T78 l0 x10_1).f1.f1).length c366_2)).setCell ⟨gb367, 3, none⟩ (.int .i64 ((rd_T78 l0 x10_1).f2.f0))).setCell ⟨gb367, 4, none⟩ (.slice A366_4 ((rd_T78 l0 x10_1).f2.f1).length c366_4))) := ⟨by repeat (first | (with_reducible first | exact HB.out | apply bA_ | apply bN_ | apply bD_ | refine bS_ ?_ GE367.out) | exact HB.out)⟩
           (try clear BK367)
           (try clear HB)
           generalize (((((w17.setCell ⟨gb367, 0, none⟩ (.bool true)).setCell ⟨gb367, 1, none⟩ (.int .i64 ((rd_T78 l0 x10_1).f1.f0))).setCell ⟨gb367, 2, none⟩ (.slice A366_2 ((rd_T78 l0 x10_1).f1.f1).length c366_2)).setCell ⟨gb367, 3, none⟩ (.int .i64 ((rd_T78 l0 x10_1).f2.f0))).setCell ⟨gb367, 4, none⟩ (.slice A366_4 ((rd_T78 l0 x10_1).f2.f1).length c366_4)) = w19 at n0_ n1_ ⊢
           have BK367 := n0_
           have HB := n1_
           clear n0_ n1_
           have n0_ := Az_.mk (kD_ BK367.out)
           have n1_ := Az_.mk (bD_ HB.out)
           clear BK367
           clear HB
           have BK367 := n0_
           have HB := n1_
           clear n0_ n1_
           have p369 : 0 ≤ (x3_1 : Int) := of_decide_eq_true (by first | (with_reducible assumption) | assumption)
           have q369 : x3_1 < (l0.length : Int) := of_decide_eq_true (by first | (with_reducible assumption) | assumption)
           obtain ⟨ad369, A369_2, c369_2, A369_4, c369_4, e369, hx369_0, hx369_1, hx369_2, hx369_3, hx369_4, hl369_2, hi369_2, hl369_4, hi369_4⟩ := at_T78 HR0.out x3_1 p369 q369
           have hw369_4 := hx369_4
           have hw369_3 := hx369_3
           have hw369_2 := hx369_2
           have hw369_1 := hx369_1
           have hw369_0 := hx369_0
           (try rw [← Nbq5.out] at hx369_0)
           obtain rfl : ad366 = ad369 := (by injection e369)
           replace hx369_0 := (HB.out.cell (World.block_lt_of_cell? w _ hx369_0)).trans hx369_0
           replace hx369_1 := (HB.out.cell (World.block_lt_of_cell? w _ hx369_1)).trans hx369_1
           replace hx369_2 := (HB.out.cell (World.block_lt_of_cell? w _ hx369_2)).trans hx369_2
           replace hx369_3 := (HB.out.cell (World.block_lt_of_cell? w _ hx369_3)).trans hx369_3
           replace hx369_4 := (HB.out.cell (World.block_lt_of_cell? w _ hx369_4)).trans hx369_4
           have HR369_2 := Az_.mk hi369_2
           have HC369_2 := Az_.mk hl369_2
           clear hi369_2 hl369_2
           have HR369_4 := Az_.mk hi369_4
           have HC369_4 := Az_.mk hl369_4
           clear hi369_4 hl369_4
           replace p369 := eq_true p369
           replace q369 := eq_true q369
           refine start_ (n := 16) (S := fun w' => w'.cell? ⟨gb367, 0, none⟩ = some (.bool true) ∧ w'.cell? ⟨gb367, 1, none⟩ = some (.int .i64 ((rd_T78 l0 x10_1).f1.f0)) ∧ w'.cell? ⟨gb367, 2, none⟩ = some (.slice A366_2 ((rd_T78 l0 x10_1).f1.f1).length c366_2) ∧ w'.cell? ⟨gb367, 3, none⟩ = some (.int .i64 ((rd_T78 l0 x10_1).f2.f0)) ∧ w'.cell? ⟨gb367, 4, none⟩ = some (.slice A366_4 ((rd_T78 l0 x10_1).f2.f1).length c366_4) ∧ w'.cell? (ad366.add ((x3_1).toNat * 5)) = some (.bool ((rd_T78 l0 x3_1).f0)) ∧ w'.cell? ⟨(ad366.add ((x3_1).toNat * 5)).block, (ad366.add ((x3_1).toNat * 5)).off + 1, none⟩ = some (.int .i64 ((rd_T78 l0 x3_1).f1.f0)) ∧ w'.cell? ⟨(ad366.add ((x3_1).toNat * 5)).block, (ad366.add ((x3_1).toNat * 5)).off + 2, none⟩ = some (.slice A369_2 ((rd_T78 l0 x3_1).f1.f1).length c369_2) ∧ w'.cell? ⟨(ad366.add ((x3_1).toNat * 5)).block, (ad366.add ((x3_1).toNat * 5)).off + 3, none⟩ = some (.int .i64 ((rd_T78 l0 x3_1).f2.f0)) ∧ w'.cell? ⟨(ad366.add ((x3_1).toNat * 5)).block, (ad366.add ((x3_1).toNat * 5)).off + 4, none⟩ = some (.slice A369_4 ((rd_T78 l0 x3_1).f2.f1).length c369_4)) (ds := []) #[false, false, false, false, false, false, false, false, false, false, false, false, false, false, false, false] (by kernel_rfl) rfl rfl ⟨(yaa_ BK367.out 0).trans rfl, (yaa_ BK367.out 1).trans rfl, (yaa_ BK367.out 2).trans rfl, (yaa_ BK367.out 3).trans rfl, (yaa_ BK367.out 4).trans rfl, ((HB.out.cell (World.block_lt_of_cell? w _ hw369_0)).trans hw369_0), ((HB.out.cell (World.block_lt_of_cell? w _ hw369_1)).trans hw369_1), ((HB.out.cell (World.block_lt_of_cell? w _ hw369_2)).trans hw369_2), ((HB.out.cell (World.block_lt_of_cell? w _ hw369_3)).trans hw369_3), ((HB.out.cell (World.block_lt_of_cell? w _ hw369_4)).trans hw369_4)⟩ (fun hHeld => ?_); refine with_tabW order_Looked.tab5 order_Looked.bits5 (fun HT_ HW_ => ?_)
           generalize w19.drew = w20 at BK367 HB HR369_2 HR369_4 hx369_0 hx369_1 hx369_2 hx369_3 hx369_4 hHeld ⊢
           refine pure_ (i := 0) (N := some 15) (v := ?_) (a' := ?_) #[true, false, false, false, false, false, false, false, false, false, false, false, false, false, false, false] rfl rfl (any_of HT_.out (by kernel_rfl)) (fun _ _ _ h => h) (Or.inl ⟨by rfl, ?_⟩) ?_ ?_
           rotate_left
           ·intro w'
            go_simp
            with_reducible rfl
           rotate_left
           ·simp only [Act.put, sA_, sZ_, sS_, i64_w, i32_w]
            rfl
           refine take_ (i := 1) (N := some 16) (v := ?_) (a' := ?_) #[true, true, false, false, false, false, false, false, false, false, false, false, false, false, false, false] rfl rfl (take_ofW HT_.out HW_.out (by kernel_rfl)) (fun _ _ _ h => h) (Or.inl ⟨by rfl, ?_⟩) hHeld ?_ ?_
           rotate_left
           ·rintro w' ⟨s0, s1, s2, s3, s4, s5, s6, s7, s8, s9⟩
            go_simp
            with_reducible rfl
           rotate_left
           ·simp only [Act.put, sA_, sZ_, sS_, i64_w, i32_w]
            rfl
           refine pure_ (i := 2) (N := some 17) (v := ?_) (a' := ?_) #[true, true, true, false, false, false, false, false, false, false, false, false, false, false, false, false] rfl rfl (any_of HT_.out (by kernel_rfl)) (fun _ _ _ h => h) (Or.inl ⟨by rfl, ?_⟩) ?_ ?_
           rotate_left
           ·intro w'
            go_simp
            with_reducible rfl
           rotate_left
           ·simp only [Act.put, sA_, sZ_, sS_, i64_w, i32_w]
            rfl
           refine pure_ (i := 3) (N := some 18) (v := ?_) (a' := ?_) #[true, true, true, true, false, false, false, false, false, false, false, false, false, false, false, false] rfl rfl (any_of HT_.out (by kernel_rfl)) (fun _ _ _ h => h) (Or.inl ⟨by rfl, ?_⟩) ?_ ?_
           rotate_left
           ·intro w'
            go_simp
            with_reducible rfl
           rotate_left
           ·simp only [Act.put, sA_, sZ_, sS_, i64_w, i32_w]
            rfl
           refine pure_ (i := 4) (N := some 19) (v := ?_) (a' := ?_) #[true, true, true, true, true, false, false, false, false, false, false, false, false, false, false, false] rfl rfl (any_of HT_.out (by kernel_rfl)) (fun _ _ _ h => h) (Or.inl ⟨by rfl, ?_⟩) ?_ ?_
           rotate_left
           ·intro w'
            go_simp
            with_reducible rfl
           rotate_left
           ·simp only [Act.put, sA_, sZ_, sS_, i64_w, i32_w]
            rfl
           refine pure_ (i := 5) (N := some 20) (v := ?_) (a' := ?_) #[true, true, true, true, true, true, false, false, false, false, false, false, false, false, false, false] rfl rfl (any_of HT_.out (by kernel_rfl)) (fun _ _ _ h => h) (Or.inl ⟨by rfl, ?_⟩) ?_ ?_
           rotate_left
           ·intro w'
            go_simp
            with_reducible rfl
           rotate_left
           ·simp only [Act.put, sA_, sZ_, sS_, i64_w, i32_w]
            rfl
           refine pure_ (i := 8) (N := some 23) (v := ?_) (a' := ?_) #[true, true, true, true, true, true, false, false, true, false, false, false, false, false, false, false] rfl rfl (any_of HT_.out (by kernel_rfl)) (fun _ _ _ h => h) (Or.inl ⟨by rfl, ?_⟩) ?_ ?_
           rotate_left
           ·intro w'
            go_simp
            with_reducible rfl
           rotate_left
           ·simp only [Act.put, sA_, sZ_, sS_, i64_w, i32_w]
            rfl
           refine pure_ (i := 9) (N := some 24) (v := ?_) (a' := ?_) #[true, true, true, true, true, true, false, false, true, true, false, false, false, false, false, false] rfl rfl (any_of HT_.out (by kernel_rfl)) (fun _ _ _ h => h) (Or.inl ⟨by rfl, ?_⟩) ?_ ?_
           rotate_left
           ·intro w'
            go_simp
            with_reducible rfl
           rotate_left
           ·simp only [Act.put, sA_, sZ_, sS_, i64_w, i32_w]
            rfl
           refine pure_ (i := 10) (N := some 25) (v := ?_) (a' := ?_) #[true, true, true, true, true, true, false, false, true, true, true, false, false, false, false, false] rfl rfl (any_of HT_.out (by kernel_rfl)) (fun _ _ _ h => h) (Or.inl ⟨by rfl, ?_⟩) ?_ ?_
           rotate_left
           ·intro w'
            go_simp
            with_reducible rfl
           rotate_left
           ·simp only [Act.put, sA_, sZ_, sS_, i64_w, i32_w]
            rfl
           refine take_ (i := 6) (N := some 21) (v := ?_) (a' := ?_) #[true, true, true, true, true, true, true, false, true, true, true, false, false, false, false, false] rfl rfl (take_ofW HT_.out HW_.out (by kernel_rfl)) (fun _ _ _ h => h) (Or.inl ⟨by rfl, ?_⟩) hHeld ?_ ?_
           rotate_left
           ·rintro w' ⟨s0, s1, s2, s3, s4, s5, s6, s7, s8, s9⟩
            go_simp
            with_reducible rfl
           rotate_left
           ·simp only [Act.put, sA_, sZ_, sS_, i64_w, i32_w]
            rfl
           refine take_ (i := 11) (N := some 26) (v := ?_) (a' := ?_) #[true, true, true, true, true, true, true, false, true, true, true, true, false, false, false, false] rfl rfl (take_ofW HT_.out HW_.out (by kernel_rfl)) (fun _ _ _ h => h) (Or.inl ⟨by rfl, ?_⟩) hHeld ?_ ?_
           rotate_left
           ·rintro w' ⟨s0, s1, s2, s3, s4, s5, s6, s7, s8, s9⟩
            go_simp
            with_reducible rfl
           rotate_left
           ·simp only [Act.put, sA_, sZ_, sS_, i64_w, i32_w]
            rfl
           refine one_ (i := 7) (N := some 22) #[true, true, true, true, true, true, true, true, true, true, true, true, false, false, false, false] rfl rfl (one_of HT_.out (by kernel_rfl)) (by decide) (fun K hK => ?_)
           refine goes_ Try.func86 (by kernel_rfl) rfl #[.agg #[.bool true, .int .i64 ((rd_T78 l0 x10_1).f1.f0), .slice A366_2 ((rd_T78 l0 x10_1).f1.f1).length c366_2, .int .i64 ((rd_T78 l0 x10_1).f2.f0), .slice A366_4 ((rd_T78 l0 x10_1).f2.f1).length c366_4]] (by rfl) rfl rfl (by (try simp only [List.map_toArray, List.map_cons, List.map_nil]); first | done | rfl | (simp only [List.length_drop, List.length_take]; rfl)) ?_
           with_reducible refine (order_weight.calls true ((rd_T78 l0 x10_1).f1.f0) _ _ ((rd_T78 l0 x10_1).f1.f1) ((rd_T78 l0 x10_1).f2.f0) _ _ ((rd_T78 l0 x10_1).f2.f1) t368 _ ?side1 ?side2 ?side3 ?side4 A12.out).mono ?_
           (case side1 => repeat (first | exact (Kd.C_below HR366_2.out HB.out) | (with_reducible refine Kd.C_alloc ?_ _) | (with_reducible refine Kd.C_drewN ?_ _) | (with_reducible refine Kd.C_drew ?_)))
           (case side2 => exact HC366_2.out)
           (case side3 => repeat (first | exact (Kd.C_below HR366_4.out HB.out) | (with_reducible refine Kd.C_alloc ?_ _) | (with_reducible refine Kd.C_drewN ?_ _) | (with_reducible refine Kd.C_drew ?_)))
           (case side4 => exact HC366_4.out)
           rintro e w21 ⟨rfl, hb⟩
           refine ⟨_, rfl, ?_⟩
           have n0_ := Az_.mk (kB_ (g := gb367) (o := .cells #[.bool true, .int .i64 ((rd_T78 l0 x10_1).f1.f0), .slice A366_2 ((rd_T78 l0 x10_1).f1.f1).length c366_2, .int .i64 ((rd_T78 l0 x10_1).f2.f0), .slice A366_4 ((rd_T78 l0 x10_1).f2.f1).length c366_4] 78 (0, 0)) (by (with_reducible repeat (first | refine kN_ ?_ _ | refine kD_ ?_ | refine kA_ ?_ _)); exact BK367.out) hb)
           have n1_ := Az_.mk (bT_ (by repeat (first | (with_reducible first | exact HB.out | apply bA_ | apply bN_ | apply bD_ | refine bS_ ?_ GE367.out) | exact HB.out)) hb)
           clear BK367
           clear HB
           have BK367 := n0_
           have HB := n1_
           clear n0_ n1_
           (try clear hb)
           (try clear hb2)
           (try clear hk)
           (try clear hi)
           refine hK.out _ _ ⟨(yaa_ BK367.out 0).trans rfl, (yaa_ BK367.out 1).trans rfl, (yaa_ BK367.out 2).trans rfl, (yaa_ BK367.out 3).trans rfl, (yaa_ BK367.out 4).trans rfl, ((HB.out.cell (World.block_lt_of_cell? w _ hw369_0)).trans hw369_0), ((HB.out.cell (World.block_lt_of_cell? w _ hw369_1)).trans hw369_1), ((HB.out.cell (World.block_lt_of_cell? w _ hw369_2)).trans hw369_2), ((HB.out.cell (World.block_lt_of_cell? w _ hw369_3)).trans hw369_3), ((HB.out.cell (World.block_lt_of_cell? w _ hw369_4)).trans hw369_4)⟩ (fun hHeld => ?_)
           clear hK K
           refine norm_ (a' := ?_) ?_ ?_
           rotate_left
           ·show Act.put _ (some 22) _ = _
            simp only [Act.put, sA_, sZ_, sS_, i64_w, i32_w]
            rfl
           refine one_ (i := 12) (N := some 27) #[true, true, true, true, true, true, true, true, true, true, true, true, true, false, false, false] rfl rfl (one_of HT_.out (by kernel_rfl)) (by decide) (fun K hK => ?_)
           refine goes_ Try.func86 (by kernel_rfl) rfl #[.agg #[.bool ((rd_T78 l0 x3_1).f0), .int .i64 ((rd_T78 l0 x3_1).f1.f0), .slice A369_2 ((rd_T78 l0 x3_1).f1.f1).length c369_2, .int .i64 ((rd_T78 l0 x3_1).f2.f0), .slice A369_4 ((rd_T78 l0 x3_1).f2.f1).length c369_4]] (by rfl) rfl rfl (by (try simp only [List.map_toArray, List.map_cons, List.map_nil]); first | done | rfl | (simp only [List.length_drop, List.length_take]; rfl)) ?_
           with_reducible refine (order_weight.calls ((rd_T78 l0 x3_1).f0) ((rd_T78 l0 x3_1).f1.f0) _ _ ((rd_T78 l0 x3_1).f1.f1) ((rd_T78 l0 x3_1).f2.f0) _ _ ((rd_T78 l0 x3_1).f2.f1) t370 _ ?side1 ?side2 ?side3 ?side4 A15.out).mono ?_
           (case side1 => repeat (first | exact (Kd.C_below HR369_2.out HB.out) | (with_reducible refine Kd.C_alloc ?_ _) | (with_reducible refine Kd.C_drewN ?_ _) | (with_reducible refine Kd.C_drew ?_)))
           (case side2 => exact HC369_2.out)
           (case side3 => repeat (first | exact (Kd.C_below HR369_4.out HB.out) | (with_reducible refine Kd.C_alloc ?_ _) | (with_reducible refine Kd.C_drewN ?_ _) | (with_reducible refine Kd.C_drew ?_)))
           (case side4 => exact HC369_4.out)
           rintro e w22 ⟨rfl, hb⟩
           refine ⟨_, rfl, ?_⟩
           have n0_ := Az_.mk (kB_ (g := gb367) (o := .cells #[.bool true, .int .i64 ((rd_T78 l0 x10_1).f1.f0), .slice A366_2 ((rd_T78 l0 x10_1).f1.f1).length c366_2, .int .i64 ((rd_T78 l0 x10_1).f2.f0), .slice A366_4 ((rd_T78 l0 x10_1).f2.f1).length c366_4] 78 (0, 0)) (by (with_reducible repeat (first | refine kN_ ?_ _ | refine kD_ ?_ | refine kA_ ?_ _)); exact BK367.out) hb)
           have n1_ := Az_.mk (bT_ (by repeat (first | (with_reducible first | exact HB.out | apply bA_ | apply bN_ | apply bD_ | refine bS_ ?_ GE367.out) | exact HB.out)) hb)
           clear BK367
           clear HB
           have BK367 := n0_
           have HB := n1_
           clear n0_ n1_
           (try clear hb)
           (try clear hb2)
           (try clear hk)
           (try clear hi)
           refine hK.out _ _ ⟨(yaa_ BK367.out 0).trans rfl, (yaa_ BK367.out 1).trans rfl, (yaa_ BK367.out 2).trans rfl, (yaa_ BK367.out 3).trans rfl, (yaa_ BK367.out 4).trans rfl, ((HB.out.cell (World.block_lt_of_cell? w _ hw369_0)).trans hw369_0), ((HB.out.cell (World.block_lt_of_cell? w _ hw369_1)).trans hw369_1), ((HB.out.cell (World.block_lt_of_cell? w _ hw369_2)).trans hw369_2), ((HB.out.cell (World.block_lt_of_cell? w _ hw369_3)).trans hw369_3), ((HB.out.cell (World.block_lt_of_cell? w _ hw369_4)).trans hw369_4)⟩ (fun hHeld => ?_)
           clear hK K
           refine norm_ (a' := ?_) ?_ ?_
           rotate_left
           ·show Act.put _ (some 27) _ = _
            simp only [Act.put, sA_, sZ_, sS_, i64_w, i32_w]
            rfl
           refine pure_ (i := 13) (N := some 28) (v := ?_) (a' := ?_) #[true, true, true, true, true, true, true, true, true, true, true, true, true, true, false, false] rfl rfl (any_of HT_.out (by kernel_rfl)) (fun _ _ _ h => h) (Or.inl ⟨by rfl, ?_⟩) ?_ ?_
           rotate_left
           ·intro w'
            go_simp
            with_reducible rfl
           rotate_left
           ·simp only [Act.put, sA_, sZ_, sS_, i64_w, i32_w]
            rfl
           refine pure_ (i := 14) (N := some 29) (v := ?_) (a' := ?_) #[true, true, true, true, true, true, true, true, true, true, true, true, true, true, true, false] rfl rfl (any_of HT_.out (by kernel_rfl)) (fun _ _ _ h => h) (Or.inl ⟨by rfl, ?_⟩) ?_ ?_
           rotate_left
           ·intro w'
            go_simp
            with_reducible rfl
           rotate_left
           ·simp only [Act.put, sA_, sZ_, sS_, i64_w, i32_w]
            rfl
           refine pure_ (i := 15) (N := some 30) (v := ?_) (a' := ?_) #[true, true, true, true, true, true, true, true, true, true, true, true, true, true, true, true] rfl rfl (any_of HT_.out (by kernel_rfl)) (fun _ _ _ h => h) (Or.inl ⟨by rfl, ?_⟩) ?_ ?_
           rotate_left
           ·intro w'
            go_simp
            with_reducible rfl
           rotate_left
           ·simp only [Act.put, sA_, sZ_, sS_, i64_w, i32_w]
            rfl
           refine done_ (done_of HT_.out (by kernel_rfl)) ?_
           try go_wp2
           go_roundg k1
           case measure => have := HK1.out; omega
           case rel => exact ⟨(x10_1), (wrap64 (x10_1 + 1)), (by first | rfl | (simp; done) | (simp [*]; done)), (by first | rfl | (simp; done) | (simp [*]; done)), H', ⟨by have := HK1.out; omega⟩, ⟨by repeat (first | (with_reducible first | exact HB.out | apply bA_ | apply bN_ | apply bD_ | refine bS_ ?_ GE367.out) | exact HB.out)⟩⟩
          ·rw [if_neg c16] at H
           have c16b0 : decide (t370 < t368) = false := decide_eq_false c16
           clear c16
           have H' := Az_.mk H
           clear H
           have p366 : 0 ≤ (x10_1 : Int) := of_decide_eq_true (by first | (with_reducible assumption) | assumption)
           have q366 : x10_1 < (l0.length : Int) := of_decide_eq_true (by first | (with_reducible assumption) | assumption)
           obtain ⟨ad366, A366_2, c366_2, A366_4, c366_4, e366, hx366_0, hx366_1, hx366_2, hx366_3, hx366_4, hl366_2, hi366_2, hl366_4, hi366_4⟩ := at_T78 HR0.out x10_1 p366 q366
           (try rw [← Nbq5.out] at hx366_0)
           cases e366
           replace hx366_0 := (HB.out.cell (World.block_lt_of_cell? w _ hx366_0)).trans hx366_0
           replace hx366_1 := (HB.out.cell (World.block_lt_of_cell? w _ hx366_1)).trans hx366_1
           replace hx366_2 := (HB.out.cell (World.block_lt_of_cell? w _ hx366_2)).trans hx366_2
           replace hx366_3 := (HB.out.cell (World.block_lt_of_cell? w _ hx366_3)).trans hx366_3
           replace hx366_4 := (HB.out.cell (World.block_lt_of_cell? w _ hx366_4)).trans hx366_4
           have HR366_2 := Az_.mk hi366_2
           have HC366_2 := Az_.mk hl366_2
           clear hi366_2 hl366_2
           have HR366_4 := Az_.mk hi366_4
           have HC366_4 := Az_.mk hl366_4
           clear hi366_4 hl366_4
           replace p366 := eq_true p366
           replace q366 := eq_true q366
           try go_wp2_with (first | ((with_reducible refine yak_ (N := 5) rfl ?_); refine yaj_ ?hg (N := 5) ?hd (cs := #[.bool false, .int .i64 0, .slice none 0 0, .int .i64 0, .slice none 0 0]) (t := 78) ?hr ?_; (case hd => rfl); (case hg => rfl); (case hr => first | (go_simp; done) | (go_simp; rfl)); intro gb367 hg w23 hbox hb; have n0_ := Az_.mk (bT_ (by repeat (first | (with_reducible first | exact HB.out | apply bA_ | apply bN_ | apply bD_) | exact HB.out)) hb); have n1_ := Az_.mk (hbox); have n2_ := Az_.mk ((by rw [hg]; exact (bZ_ (by repeat (first | (with_reducible first | exact HB.out | apply bA_ | apply bN_ | apply bD_) | exact HB.out))) : w.heap.size ≤ gb367)); have n3_ := Az_.mk ((by rw [hg]; exact (bZ_ (by repeat (first | (with_reducible first | exact HB.out | apply bA_ | apply bN_ | apply bD_) | exact HB.out))) : w.heap.size ≤ gb367)); clear HB; have HB := n0_; have BK367 := n1_; have GW367 := n2_; have GE367 := n3_; clear n0_ n1_ n2_ n3_; clear hb hbox hg; have hcz24_0 : w23.cell? ⟨gb367, 0, none⟩ = some (.bool false) := (yaa_ BK367.out 0).trans rfl; have hcz24_1 : w23.cell? ⟨gb367, 1, none⟩ = some (.int .i64 0) := (yaa_ BK367.out 1).trans rfl; have hcz24_2 : w23.cell? ⟨gb367, 2, none⟩ = some (.slice none 0 0) := (yaa_ BK367.out 2).trans rfl; have hcz24_3 : w23.cell? ⟨gb367, 3, none⟩ = some (.int .i64 0) := (yaa_ BK367.out 3).trans rfl; have hcz24_4 : w23.cell? ⟨gb367, 4, none⟩ = some (.slice none 0 0) := (yaa_ BK367.out 4).trans rfl; have hfz24_0 := yab_ BK367.out 0; have hfz24_1 := yab_ BK367.out 1; have hfz24_2 := yab_ BK367.out 2; have hfz24_3 := yab_ BK367.out 3; have hfz24_4 := yab_ BK367.out 4))
           have n0_ : Az_ ((((((w23.setCell ⟨gb367, 0, none⟩ (.bool true)).setCell ⟨gb367, 1, none⟩ (.int .i64 ((rd_T78 l0 x10_1).f1.f0))).setCell ⟨gb367, 2, none⟩ (.slice A366_2 ((rd_T78 l0 x10_1).f1.f1).length c366_2)).setCell ⟨gb367, 3, none⟩ (.int .i64 ((rd_T78 l0 x10_1).f2.f0))).setCell ⟨gb367, 4, none⟩ (.slice A366_4 ((rd_T78 l0 x10_1).f2.f1).length c366_4)).heap[gb367]? = some (.cells #[.bool true, .int .i64 ((rd_T78 l0 x10_1).f1.f0), .slice A366_2 ((rd_T78 l0 x10_1).f1.f1).length c366_2, .int .i64 ((rd_T78 l0 x10_1).f2.f0), .slice A366_4 ((rd_T78 l0 x10_1).f2.f1).length c366_4] 78 (0, 0))) := ⟨by (with_reducible repeat (first | refine kN_ ?_ _ | refine kD_ ?_ | refine kA_ ?_ _)); refine blk_put (cs := #[.bool true, .int .i64 ((rd_T78 l0 x10_1).f1.f0), .slice A366_2 ((rd_T78 l0 x10_1).f1.f1).length c366_2, .int .i64 ((rd_T78 l0 x10_1).f2.f0), .slice none 0 0]) ?_ 4 _ rfl; (with_reducible repeat (first | refine kN_ ?_ _ | refine kD_ ?_ | refine kA_ ?_ _)); refine blk_put (cs := #[.bool true, .int .i64 ((rd_T78 l0 x10_1).f1.f0), .slice A366_2 ((rd_T78 l0 x10_1).f1.f1).length c366_2, .int .i64 0, .slice none 0 0]) ?_ 3 _ rfl; (with_reducible repeat (first | refine kN_ ?_ _ | refine kD_ ?_ | refine kA_ ?_ _)); refine blk_put (cs := #[.bool true, .int .i64 ((rd_T78 l0 x10_1).f1.f0), .slice none 0 0, .int .i64 0, .slice none 0 0]) ?_ 2 _ rfl; (with_reducible repeat (first | refine kN_ ?_ _ | refine kD_ ?_ | refine kA_ ?_ _)); refine blk_put (cs := #[.bool true, .int .i64 0, .slice none 0 0, .int .i64 0, .slice none 0 0]) ?_ 1 _ rfl; (with_reducible repeat (first | refine kN_ ?_ _ | refine kD_ ?_ | refine kA_ ?_ _)); refine blk_put (cs := #[.bool false, .int .i64 0, .slice none 0 0, .int .i64 0, .slice none 0 0]) ?_ 0 _ rfl; (with_reducible repeat (first | refine kN_ ?_ _ | refine kD_ ?_ | refine kA_ ?_ _)); exact BK367.out⟩
           have n1_ : Az_ (Below w.heap.size w (((((w23.setCell ⟨gb367, 0, none⟩ (.bool true)).setCell ⟨gb367, 1, none⟩ (.int .i64 ((rd_T78 l0 x10_1).f1.f0))).setCell ⟨gb367, 2, none⟩ (.slice A366_2 ((rd_T78 l0 x10_1).f1.f1).length c366_2)).setCell ⟨gb367, 3, none⟩ (.int .i64 ((rd_T78 l0 x10_1).f2.f0))).setCell ⟨gb367, 4, none⟩ (.slice A366_4 ((rd_T78 l0 x10_1).f2.f1).length c366_4))) := ⟨by repeat (first | (with_reducible first | exact HB.out | apply bA_ | apply bN_ | apply bD_ | refine bS_ ?_ GE367.out) | exact HB.out)⟩
           (try clear BK367)
           (try clear HB)
           generalize (((((w23.setCell ⟨gb367, 0, none⟩ (.bool true)).setCell ⟨gb367, 1, none⟩ (.int .i64 ((rd_T78 l0 x10_1).f1.f0))).setCell ⟨gb367, 2, none⟩ (.slice A366_2 ((rd_T78 l0 x10_1).f1.f1).length c366_2)).setCell ⟨gb367, 3, none⟩ (.int .i64 ((rd_T78 l0 x10_1).f2.f0))).setCell ⟨gb367, 4, none⟩ (.slice A366_4 ((rd_T78 l0 x10_1).f2.f1).length c366_4)) = w25 at n0_ n1_ ⊢
           have BK367 := n0_
           have HB := n1_
           clear n0_ n1_
           have n0_ := Az_.mk (kD_ BK367.out)
           have n1_ := Az_.mk (bD_ HB.out)
           clear BK367
           clear HB
           have BK367 := n0_
           have HB := n1_
           clear n0_ n1_
           have p369 : 0 ≤ (x3_1 : Int) := of_decide_eq_true (by first | (with_reducible assumption) | assumption)
           have q369 : x3_1 < (l0.length : Int) := of_decide_eq_true (by first | (with_reducible assumption) | assumption)
           obtain ⟨ad369, A369_2, c369_2, A369_4, c369_4, e369, hx369_0, hx369_1, hx369_2, hx369_3, hx369_4, hl369_2, hi369_2, hl369_4, hi369_4⟩ := at_T78 HR0.out x3_1 p369 q369
           have hw369_4 := hx369_4
           have hw369_3 := hx369_3
           have hw369_2 := hx369_2
           have hw369_1 := hx369_1
           have hw369_0 := hx369_0
           (try rw [← Nbq5.out] at hx369_0)
           obtain rfl : ad366 = ad369 := (by injection e369)
           replace hx369_0 := (HB.out.cell (World.block_lt_of_cell? w _ hx369_0)).trans hx369_0
           replace hx369_1 := (HB.out.cell (World.block_lt_of_cell? w _ hx369_1)).trans hx369_1
           replace hx369_2 := (HB.out.cell (World.block_lt_of_cell? w _ hx369_2)).trans hx369_2
           replace hx369_3 := (HB.out.cell (World.block_lt_of_cell? w _ hx369_3)).trans hx369_3
           replace hx369_4 := (HB.out.cell (World.block_lt_of_cell? w _ hx369_4)).trans hx369_4
           have HR369_2 := Az_.mk hi369_2
           have HC369_2 := Az_.mk hl369_2
           clear hi369_2 hl369_2
           have HR369_4 := Az_.mk hi369_4
           have HC369_4 := Az_.mk hl369_4
           clear hi369_4 hl369_4
           replace p369 := eq_true p369
           replace q369 := eq_true q369
           refine start_ (n := 16) (S := fun w' => w'.cell? ⟨gb367, 0, none⟩ = some (.bool true) ∧ w'.cell? ⟨gb367, 1, none⟩ = some (.int .i64 ((rd_T78 l0 x10_1).f1.f0)) ∧ w'.cell? ⟨gb367, 2, none⟩ = some (.slice A366_2 ((rd_T78 l0 x10_1).f1.f1).length c366_2) ∧ w'.cell? ⟨gb367, 3, none⟩ = some (.int .i64 ((rd_T78 l0 x10_1).f2.f0)) ∧ w'.cell? ⟨gb367, 4, none⟩ = some (.slice A366_4 ((rd_T78 l0 x10_1).f2.f1).length c366_4) ∧ w'.cell? (ad366.add ((x3_1).toNat * 5)) = some (.bool ((rd_T78 l0 x3_1).f0)) ∧ w'.cell? ⟨(ad366.add ((x3_1).toNat * 5)).block, (ad366.add ((x3_1).toNat * 5)).off + 1, none⟩ = some (.int .i64 ((rd_T78 l0 x3_1).f1.f0)) ∧ w'.cell? ⟨(ad366.add ((x3_1).toNat * 5)).block, (ad366.add ((x3_1).toNat * 5)).off + 2, none⟩ = some (.slice A369_2 ((rd_T78 l0 x3_1).f1.f1).length c369_2) ∧ w'.cell? ⟨(ad366.add ((x3_1).toNat * 5)).block, (ad366.add ((x3_1).toNat * 5)).off + 3, none⟩ = some (.int .i64 ((rd_T78 l0 x3_1).f2.f0)) ∧ w'.cell? ⟨(ad366.add ((x3_1).toNat * 5)).block, (ad366.add ((x3_1).toNat * 5)).off + 4, none⟩ = some (.slice A369_4 ((rd_T78 l0 x3_1).f2.f1).length c369_4)) (ds := []) #[false, false, false, false, false, false, false, false, false, false, false, false, false, false, false, false] (by kernel_rfl) rfl rfl ⟨(yaa_ BK367.out 0).trans rfl, (yaa_ BK367.out 1).trans rfl, (yaa_ BK367.out 2).trans rfl, (yaa_ BK367.out 3).trans rfl, (yaa_ BK367.out 4).trans rfl, ((HB.out.cell (World.block_lt_of_cell? w _ hw369_0)).trans hw369_0), ((HB.out.cell (World.block_lt_of_cell? w _ hw369_1)).trans hw369_1), ((HB.out.cell (World.block_lt_of_cell? w _ hw369_2)).trans hw369_2), ((HB.out.cell (World.block_lt_of_cell? w _ hw369_3)).trans hw369_3), ((HB.out.cell (World.block_lt_of_cell? w _ hw369_4)).trans hw369_4)⟩ (fun hHeld => ?_); refine with_tabW order_Looked.tab5 order_Looked.bits5 (fun HT_ HW_ => ?_)
           generalize w25.drew = w26 at BK367 HB HR369_2 HR369_4 hx369_0 hx369_1 hx369_2 hx369_3 hx369_4 hHeld ⊢
           refine pure_ (i := 0) (N := some 15) (v := ?_) (a' := ?_) #[true, false, false, false, false, false, false, false, false, false, false, false, false, false, false, false] rfl rfl (any_of HT_.out (by kernel_rfl)) (fun _ _ _ h => h) (Or.inl ⟨by rfl, ?_⟩) ?_ ?_
           rotate_left
           ·intro w'
            go_simp
            with_reducible rfl
           rotate_left
           ·simp only [Act.put, sA_, sZ_, sS_, i64_w, i32_w]
            rfl
           refine take_ (i := 1) (N := some 16) (v := ?_) (a' := ?_) #[true, true, false, false, false, false, false, false, false, false, false, false, false, false, false, false] rfl rfl (take_ofW HT_.out HW_.out (by kernel_rfl)) (fun _ _ _ h => h) (Or.inl ⟨by rfl, ?_⟩) hHeld ?_ ?_
           rotate_left
           ·rintro w' ⟨s0, s1, s2, s3, s4, s5, s6, s7, s8, s9⟩
            go_simp
            with_reducible rfl
           rotate_left
           ·simp only [Act.put, sA_, sZ_, sS_, i64_w, i32_w]
            rfl
           refine pure_ (i := 2) (N := some 17) (v := ?_) (a' := ?_) #[true, true, true, false, false, false, false, false, false, false, false, false, false, false, false, false] rfl rfl (any_of HT_.out (by kernel_rfl)) (fun _ _ _ h => h) (Or.inl ⟨by rfl, ?_⟩) ?_ ?_
           rotate_left
           ·intro w'
            go_simp
            with_reducible rfl
           rotate_left
           ·simp only [Act.put, sA_, sZ_, sS_, i64_w, i32_w]
            rfl
           refine pure_ (i := 3) (N := some 18) (v := ?_) (a' := ?_) #[true, true, true, true, false, false, false, false, false, false, false, false, false, false, false, false] rfl rfl (any_of HT_.out (by kernel_rfl)) (fun _ _ _ h => h) (Or.inl ⟨by rfl, ?_⟩) ?_ ?_
           rotate_left
           ·intro w'
            go_simp
            with_reducible rfl
           rotate_left
           ·simp only [Act.put, sA_, sZ_, sS_, i64_w, i32_w]
            rfl
           refine pure_ (i := 4) (N := some 19) (v := ?_) (a' := ?_) #[true, true, true, true, true, false, false, false, false, false, false, false, false, false, false, false] rfl rfl (any_of HT_.out (by kernel_rfl)) (fun _ _ _ h => h) (Or.inl ⟨by rfl, ?_⟩) ?_ ?_
           rotate_left
           ·intro w'
            go_simp
            with_reducible rfl
           rotate_left
           ·simp only [Act.put, sA_, sZ_, sS_, i64_w, i32_w]
            rfl
           refine pure_ (i := 5) (N := some 20) (v := ?_) (a' := ?_) #[true, true, true, true, true, true, false, false, false, false, false, false, false, false, false, false] rfl rfl (any_of HT_.out (by kernel_rfl)) (fun _ _ _ h => h) (Or.inl ⟨by rfl, ?_⟩) ?_ ?_
           rotate_left
           ·intro w'
            go_simp
            with_reducible rfl
           rotate_left
           ·simp only [Act.put, sA_, sZ_, sS_, i64_w, i32_w]
            rfl
           refine pure_ (i := 8) (N := some 23) (v := ?_) (a' := ?_) #[true, true, true, true, true, true, false, false, true, false, false, false, false, false, false, false] rfl rfl (any_of HT_.out (by kernel_rfl)) (fun _ _ _ h => h) (Or.inl ⟨by rfl, ?_⟩) ?_ ?_
           rotate_left
           ·intro w'
            go_simp
            with_reducible rfl
           rotate_left
           ·simp only [Act.put, sA_, sZ_, sS_, i64_w, i32_w]
            rfl
           refine pure_ (i := 9) (N := some 24) (v := ?_) (a' := ?_) #[true, true, true, true, true, true, false, false, true, true, false, false, false, false, false, false] rfl rfl (any_of HT_.out (by kernel_rfl)) (fun _ _ _ h => h) (Or.inl ⟨by rfl, ?_⟩) ?_ ?_
           rotate_left
           ·intro w'
            go_simp
            with_reducible rfl
           rotate_left
           ·simp only [Act.put, sA_, sZ_, sS_, i64_w, i32_w]
            rfl
           refine pure_ (i := 10) (N := some 25) (v := ?_) (a' := ?_) #[true, true, true, true, true, true, false, false, true, true, true, false, false, false, false, false] rfl rfl (any_of HT_.out (by kernel_rfl)) (fun _ _ _ h => h) (Or.inl ⟨by rfl, ?_⟩) ?_ ?_
           rotate_left
           ·intro w'
            go_simp
            with_reducible rfl
           rotate_left
           ·simp only [Act.put, sA_, sZ_, sS_, i64_w, i32_w]
            rfl
           refine take_ (i := 6) (N := some 21) (v := ?_) (a' := ?_) #[true, true, true, true, true, true, true, false, true, true, true, false, false, false, false, false] rfl rfl (take_ofW HT_.out HW_.out (by kernel_rfl)) (fun _ _ _ h => h) (Or.inl ⟨by rfl, ?_⟩) hHeld ?_ ?_
           rotate_left
           ·rintro w' ⟨s0, s1, s2, s3, s4, s5, s6, s7, s8, s9⟩
            go_simp
            with_reducible rfl
           rotate_left
           ·simp only [Act.put, sA_, sZ_, sS_, i64_w, i32_w]
            rfl
           refine take_ (i := 11) (N := some 26) (v := ?_) (a' := ?_) #[true, true, true, true, true, true, true, false, true, true, true, true, false, false, false, false] rfl rfl (take_ofW HT_.out HW_.out (by kernel_rfl)) (fun _ _ _ h => h) (Or.inl ⟨by rfl, ?_⟩) hHeld ?_ ?_
           rotate_left
           ·rintro w' ⟨s0, s1, s2, s3, s4, s5, s6, s7, s8, s9⟩
            go_simp
            with_reducible rfl
           rotate_left
           ·simp only [Act.put, sA_, sZ_, sS_, i64_w, i32_w]
            rfl
           refine one_ (i := 7) (N := some 22) #[true, true, true, true, true, true, true, true, true, true, true, true, false, false, false, false] rfl rfl (one_of HT_.out (by kernel_rfl)) (by decide) (fun K hK => ?_)
           refine goes_ Try.func86 (by kernel_rfl) rfl #[.agg #[.bool true, .int .i64 ((rd_T78 l0 x10_1).f1.f0), .slice A366_2 ((rd_T78 l0 x10_1).f1.f1).length c366_2, .int .i64 ((rd_T78 l0 x10_1).f2.f0), .slice A366_4 ((rd_T78 l0 x10_1).f2.f1).length c366_4]] (by rfl) rfl rfl (by (try simp only [List.map_toArray, List.map_cons, List.map_nil]); first | done | rfl | (simp only [List.length_drop, List.length_take]; rfl)) ?_
           with_reducible refine (order_weight.calls true ((rd_T78 l0 x10_1).f1.f0) _ _ ((rd_T78 l0 x10_1).f1.f1) ((rd_T78 l0 x10_1).f2.f0) _ _ ((rd_T78 l0 x10_1).f2.f1) t368 _ ?side1 ?side2 ?side3 ?side4 A12.out).mono ?_
           (case side1 => repeat (first | exact (Kd.C_below HR366_2.out HB.out) | (with_reducible refine Kd.C_alloc ?_ _) | (with_reducible refine Kd.C_drewN ?_ _) | (with_reducible refine Kd.C_drew ?_)))
           (case side2 => exact HC366_2.out)
           (case side3 => repeat (first | exact (Kd.C_below HR366_4.out HB.out) | (with_reducible refine Kd.C_alloc ?_ _) | (with_reducible refine Kd.C_drewN ?_ _) | (with_reducible refine Kd.C_drew ?_)))
           (case side4 => exact HC366_4.out)
           rintro e w27 ⟨rfl, hb⟩
           refine ⟨_, rfl, ?_⟩
           have n0_ := Az_.mk (kB_ (g := gb367) (o := .cells #[.bool true, .int .i64 ((rd_T78 l0 x10_1).f1.f0), .slice A366_2 ((rd_T78 l0 x10_1).f1.f1).length c366_2, .int .i64 ((rd_T78 l0 x10_1).f2.f0), .slice A366_4 ((rd_T78 l0 x10_1).f2.f1).length c366_4] 78 (0, 0)) (by (with_reducible repeat (first | refine kN_ ?_ _ | refine kD_ ?_ | refine kA_ ?_ _)); exact BK367.out) hb)
           have n1_ := Az_.mk (bT_ (by repeat (first | (with_reducible first | exact HB.out | apply bA_ | apply bN_ | apply bD_ | refine bS_ ?_ GE367.out) | exact HB.out)) hb)
           clear BK367
           clear HB
           have BK367 := n0_
           have HB := n1_
           clear n0_ n1_
           (try clear hb)
           (try clear hb2)
           (try clear hk)
           (try clear hi)
           refine hK.out _ _ ⟨(yaa_ BK367.out 0).trans rfl, (yaa_ BK367.out 1).trans rfl, (yaa_ BK367.out 2).trans rfl, (yaa_ BK367.out 3).trans rfl, (yaa_ BK367.out 4).trans rfl, ((HB.out.cell (World.block_lt_of_cell? w _ hw369_0)).trans hw369_0), ((HB.out.cell (World.block_lt_of_cell? w _ hw369_1)).trans hw369_1), ((HB.out.cell (World.block_lt_of_cell? w _ hw369_2)).trans hw369_2), ((HB.out.cell (World.block_lt_of_cell? w _ hw369_3)).trans hw369_3), ((HB.out.cell (World.block_lt_of_cell? w _ hw369_4)).trans hw369_4)⟩ (fun hHeld => ?_)
           clear hK K
           refine norm_ (a' := ?_) ?_ ?_
           rotate_left
           ·show Act.put _ (some 22) _ = _
            simp only [Act.put, sA_, sZ_, sS_, i64_w, i32_w]
            rfl
           refine one_ (i := 12) (N := some 27) #[true, true, true, true, true, true, true, true, true, true, true, true, true, false, false, false] rfl rfl (one_of HT_.out (by kernel_rfl)) (by decide) (fun K hK => ?_)
           refine goes_ Try.func86 (by kernel_rfl) rfl #[.agg #[.bool ((rd_T78 l0 x3_1).f0), .int .i64 ((rd_T78 l0 x3_1).f1.f0), .slice A369_2 ((rd_T78 l0 x3_1).f1.f1).length c369_2, .int .i64 ((rd_T78 l0 x3_1).f2.f0), .slice A369_4 ((rd_T78 l0 x3_1).f2.f1).length c369_4]] (by rfl) rfl rfl (by (try simp only [List.map_toArray, List.map_cons, List.map_nil]); first | done | rfl | (simp only [List.length_drop, List.length_take]; rfl)) ?_
           with_reducible refine (order_weight.calls ((rd_T78 l0 x3_1).f0) ((rd_T78 l0 x3_1).f1.f0) _ _ ((rd_T78 l0 x3_1).f1.f1) ((rd_T78 l0 x3_1).f2.f0) _ _ ((rd_T78 l0 x3_1).f2.f1) t370 _ ?side1 ?side2 ?side3 ?side4 A15.out).mono ?_
           (case side1 => repeat (first | exact (Kd.C_below HR369_2.out HB.out) | (with_reducible refine Kd.C_alloc ?_ _) | (with_reducible refine Kd.C_drewN ?_ _) | (with_reducible refine Kd.C_drew ?_)))
           (case side2 => exact HC369_2.out)
           (case side3 => repeat (first | exact (Kd.C_below HR369_4.out HB.out) | (with_reducible refine Kd.C_alloc ?_ _) | (with_reducible refine Kd.C_drewN ?_ _) | (with_reducible refine Kd.C_drew ?_)))
           (case side4 => exact HC369_4.out)
           rintro e w28 ⟨rfl, hb⟩
           refine ⟨_, rfl, ?_⟩
           have n0_ := Az_.mk (kB_ (g := gb367) (o := .cells #[.bool true, .int .i64 ((rd_T78 l0 x10_1).f1.f0), .slice A366_2 ((rd_T78 l0 x10_1).f1.f1).length c366_2, .int .i64 ((rd_T78 l0 x10_1).f2.f0), .slice A366_4 ((rd_T78 l0 x10_1).f2.f1).length c366_4] 78 (0, 0)) (by (with_reducible repeat (first | refine kN_ ?_ _ | refine kD_ ?_ | refine kA_ ?_ _)); exact BK367.out) hb)
           have n1_ := Az_.mk (bT_ (by repeat (first | (with_reducible first | exact HB.out | apply bA_ | apply bN_ | apply bD_ | refine bS_ ?_ GE367.out) | exact HB.out)) hb)
           clear BK367
           clear HB
           have BK367 := n0_
           have HB := n1_
           clear n0_ n1_
           (try clear hb)
           (try clear hb2)
           (try clear hk)
           (try clear hi)
           refine hK.out _ _ ⟨(yaa_ BK367.out 0).trans rfl, (yaa_ BK367.out 1).trans rfl, (yaa_ BK367.out 2).trans rfl, (yaa_ BK367.out 3).trans rfl, (yaa_ BK367.out 4).trans rfl, ((HB.out.cell (World.block_lt_of_cell? w _ hw369_0)).trans hw369_0), ((HB.out.cell (World.block_lt_of_cell? w _ hw369_1)).trans hw369_1), ((HB.out.cell (World.block_lt_of_cell? w _ hw369_2)).trans hw369_2), ((HB.out.cell (World.block_lt_of_cell? w _ hw369_3)).trans hw369_3), ((HB.out.cell (World.block_lt_of_cell? w _ hw369_4)).trans hw369_4)⟩ (fun hHeld => ?_)
           clear hK K
           refine norm_ (a' := ?_) ?_ ?_
           rotate_left
           ·show Act.put _ (some 27) _ = _
            simp only [Act.put, sA_, sZ_, sS_, i64_w, i32_w]
            rfl
           refine pure_ (i := 13) (N := some 28) (v := ?_) (a' := ?_) #[true, true, true, true, true, true, true, true, true, true, true, true, true, true, false, false] rfl rfl (any_of HT_.out (by kernel_rfl)) (fun _ _ _ h => h) (Or.inl ⟨by rfl, ?_⟩) ?_ ?_
           rotate_left
           ·intro w'
            go_simp
            with_reducible rfl
           rotate_left
           ·simp only [Act.put, sA_, sZ_, sS_, i64_w, i32_w]
            rfl
           refine pure_ (i := 14) (N := some 29) (v := ?_) (a' := ?_) #[true, true, true, true, true, true, true, true, true, true, true, true, true, true, true, false] rfl rfl (any_of HT_.out (by kernel_rfl)) (fun _ _ _ h => h) (Or.inl ⟨by rfl, ?_⟩) ?_ ?_
           rotate_left
           ·intro w'
            go_simp
            with_reducible rfl
           rotate_left
           ·simp only [Act.put, sA_, sZ_, sS_, i64_w, i32_w]
            rfl
           refine pure_ (i := 15) (N := some 30) (v := ?_) (a' := ?_) #[true, true, true, true, true, true, true, true, true, true, true, true, true, true, true, true] rfl rfl (any_of HT_.out (by kernel_rfl)) (fun _ _ _ h => h) (Or.inl ⟨by rfl, ?_⟩) ?_ ?_
           rotate_left
           ·intro w'
            go_simp
            with_reducible rfl
           rotate_left
           ·simp only [Act.put, sA_, sZ_, sS_, i64_w, i32_w]
            rfl
           refine done_ (done_of HT_.out (by kernel_rfl)) ?_
           try go_wp2
           go_roundg k1
           case measure => have := HK1.out; omega
           case rel => exact ⟨(x3_1), (wrap64 (x10_1 + 1)), (by first | rfl | (simp; done) | (simp [*]; done)), (by first | rfl | (simp; done) | (simp [*]; done)), H', ⟨by have := HK1.out; omega⟩, ⟨by repeat (first | (with_reducible first | exact HB.out | apply bA_ | apply bN_ | apply bD_ | refine bS_ ?_ GE367.out) | exact HB.out)⟩⟩
         ·rw [if_neg c14] at H
          exact absurd H (by simp)
        ·rw [if_neg c13] at H
         exact absurd H (by simp)
      ·replace c6 := Bool.eq_false_iff.mpr c6
       subst c6
       have H1 : (order_Looked.l0 k1 l0 x3_1 l0 (l0.length : Int) (wrap64 (x10_1 + 1))) = some r := by rw [if_neg (show ¬ (false = true) by decide)] at H; exact H
       clear H
       have H := H1
       clear H1
       have H' := Az_.mk H
       clear H
       have p366 : 0 ≤ (x10_1 : Int) := of_decide_eq_true (by first | (with_reducible assumption) | assumption)
       have q366 : x10_1 < (l0.length : Int) := of_decide_eq_true (by first | (with_reducible assumption) | assumption)
       obtain ⟨ad366, A366_2, c366_2, A366_4, c366_4, e366, hx366_0, hx366_1, hx366_2, hx366_3, hx366_4, hl366_2, hi366_2, hl366_4, hi366_4⟩ := at_T78 HR0.out x10_1 p366 q366
       (try rw [← Nbq5.out] at hx366_0)
       cases e366
       replace hx366_0 := (HB.out.cell (World.block_lt_of_cell? w _ hx366_0)).trans hx366_0
       replace hx366_1 := (HB.out.cell (World.block_lt_of_cell? w _ hx366_1)).trans hx366_1
       replace hx366_2 := (HB.out.cell (World.block_lt_of_cell? w _ hx366_2)).trans hx366_2
       replace hx366_3 := (HB.out.cell (World.block_lt_of_cell? w _ hx366_3)).trans hx366_3
       replace hx366_4 := (HB.out.cell (World.block_lt_of_cell? w _ hx366_4)).trans hx366_4
       have HR366_2 := Az_.mk hi366_2
       have HC366_2 := Az_.mk hl366_2
       clear hi366_2 hl366_2
       have HR366_4 := Az_.mk hi366_4
       have HC366_4 := Az_.mk hl366_4
       clear hi366_4 hl366_4
       replace p366 := eq_true p366
       replace q366 := eq_true q366
       try go_wp2_with (first | ((with_reducible refine yak_ (N := 5) rfl ?_); refine yaj_ ?hg (N := 5) ?hd (cs := #[.bool false, .int .i64 0, .slice none 0 0, .int .i64 0, .slice none 0 0]) (t := 78) ?hr ?_; (case hd => rfl); (case hg => rfl); (case hr => first | (go_simp; done) | (go_simp; rfl)); intro gb367 hg w29 hbox hb; have n0_ := Az_.mk (bT_ (by repeat (first | (with_reducible first | exact HB.out | apply bA_ | apply bN_ | apply bD_) | exact HB.out)) hb); have n1_ := Az_.mk (hbox); have n2_ := Az_.mk ((by rw [hg]; exact (bZ_ (by repeat (first | (with_reducible first | exact HB.out | apply bA_ | apply bN_ | apply bD_) | exact HB.out))) : w.heap.size ≤ gb367)); have n3_ := Az_.mk ((by rw [hg]; exact (bZ_ (by repeat (first | (with_reducible first | exact HB.out | apply bA_ | apply bN_ | apply bD_) | exact HB.out))) : w.heap.size ≤ gb367)); clear HB; have HB := n0_; have BK367 := n1_; have GW367 := n2_; have GE367 := n3_; clear n0_ n1_ n2_ n3_; clear hb hbox hg; have hcz30_0 : w29.cell? ⟨gb367, 0, none⟩ = some (.bool false) := (yaa_ BK367.out 0).trans rfl; have hcz30_1 : w29.cell? ⟨gb367, 1, none⟩ = some (.int .i64 0) := (yaa_ BK367.out 1).trans rfl; have hcz30_2 : w29.cell? ⟨gb367, 2, none⟩ = some (.slice none 0 0) := (yaa_ BK367.out 2).trans rfl; have hcz30_3 : w29.cell? ⟨gb367, 3, none⟩ = some (.int .i64 0) := (yaa_ BK367.out 3).trans rfl; have hcz30_4 : w29.cell? ⟨gb367, 4, none⟩ = some (.slice none 0 0) := (yaa_ BK367.out 4).trans rfl; have hfz30_0 := yab_ BK367.out 0; have hfz30_1 := yab_ BK367.out 1; have hfz30_2 := yab_ BK367.out 2; have hfz30_3 := yab_ BK367.out 3; have hfz30_4 := yab_ BK367.out 4))
       have n0_ : Az_ ((((((w29.setCell ⟨gb367, 0, none⟩ (.bool false)).setCell ⟨gb367, 1, none⟩ (.int .i64 ((rd_T78 l0 x10_1).f1.f0))).setCell ⟨gb367, 2, none⟩ (.slice A366_2 ((rd_T78 l0 x10_1).f1.f1).length c366_2)).setCell ⟨gb367, 3, none⟩ (.int .i64 ((rd_T78 l0 x10_1).f2.f0))).setCell ⟨gb367, 4, none⟩ (.slice A366_4 ((rd_T78 l0 x10_1).f2.f1).length c366_4)).heap[gb367]? = some (.cells #[.bool false, .int .i64 ((rd_T78 l0 x10_1).f1.f0), .slice A366_2 ((rd_T78 l0 x10_1).f1.f1).length c366_2, .int .i64 ((rd_T78 l0 x10_1).f2.f0), .slice A366_4 ((rd_T78 l0 x10_1).f2.f1).length c366_4] 78 (0, 0))) := ⟨by (with_reducible repeat (first | refine kN_ ?_ _ | refine kD_ ?_ | refine kA_ ?_ _)); refine blk_put (cs := #[.bool false, .int .i64 ((rd_T78 l0 x10_1).f1.f0), .slice A366_2 ((rd_T78 l0 x10_1).f1.f1).length c366_2, .int .i64 ((rd_T78 l0 x10_1).f2.f0), .slice none 0 0]) ?_ 4 _ rfl; (with_reducible repeat (first | refine kN_ ?_ _ | refine kD_ ?_ | refine kA_ ?_ _)); refine blk_put (cs := #[.bool false, .int .i64 ((rd_T78 l0 x10_1).f1.f0), .slice A366_2 ((rd_T78 l0 x10_1).f1.f1).length c366_2, .int .i64 0, .slice none 0 0]) ?_ 3 _ rfl; (with_reducible repeat (first | refine kN_ ?_ _ | refine kD_ ?_ | refine kA_ ?_ _)); refine blk_put (cs := #[.bool false, .int .i64 ((rd_T78 l0 x10_1).f1.f0), .slice none 0 0, .int .i64 0, .slice none 0 0]) ?_ 2 _ rfl; (with_reducible repeat (first | refine kN_ ?_ _ | refine kD_ ?_ | refine kA_ ?_ _)); refine blk_put (cs := #[.bool false, .int .i64 0, .slice none 0 0, .int .i64 0, .slice none 0 0]) ?_ 1 _ rfl; (with_reducible repeat (first | refine kN_ ?_ _ | refine kD_ ?_ | refine kA_ ?_ _)); refine blk_put (cs := #[.bool false, .int .i64 0, .slice none 0 0, .int .i64 0, .slice none 0 0]) ?_ 0 _ rfl; (with_reducible repeat (first | refine kN_ ?_ _ | refine kD_ ?_ | refine kA_ ?_ _)); exact BK367.out⟩
       have n1_ : Az_ (Below w.heap.size w (((((w29.setCell ⟨gb367, 0, none⟩ (.bool false)).setCell ⟨gb367, 1, none⟩ (.int .i64 ((rd_T78 l0 x10_1).f1.f0))).setCell ⟨gb367, 2, none⟩ (.slice A366_2 ((rd_T78 l0 x10_1).f1.f1).length c366_2)).setCell ⟨gb367, 3, none⟩ (.int .i64 ((rd_T78 l0 x10_1).f2.f0))).setCell ⟨gb367, 4, none⟩ (.slice A366_4 ((rd_T78 l0 x10_1).f2.f1).length c366_4))) := ⟨by repeat (first | (with_reducible first | exact HB.out | apply bA_ | apply bN_ | apply bD_ | refine bS_ ?_ GE367.out) | exact HB.out)⟩
       (try clear BK367)
       (try clear HB)
       generalize (((((w29.setCell ⟨gb367, 0, none⟩ (.bool false)).setCell ⟨gb367, 1, none⟩ (.int .i64 ((rd_T78 l0 x10_1).f1.f0))).setCell ⟨gb367, 2, none⟩ (.slice A366_2 ((rd_T78 l0 x10_1).f1.f1).length c366_2)).setCell ⟨gb367, 3, none⟩ (.int .i64 ((rd_T78 l0 x10_1).f2.f0))).setCell ⟨gb367, 4, none⟩ (.slice A366_4 ((rd_T78 l0 x10_1).f2.f1).length c366_4)) = w31 at n0_ n1_ ⊢
       have BK367 := n0_
       have HB := n1_
       clear n0_ n1_
       have n0_ := Az_.mk (kD_ BK367.out)
       have n1_ := Az_.mk (bD_ HB.out)
       clear BK367
       clear HB
       have BK367 := n0_
       have HB := n1_
       clear n0_ n1_
       refine start_ (n := 16) (S := fun w' => w'.cell? ⟨gb367, 0, none⟩ = some (.bool false) ∧ w'.cell? ⟨gb367, 1, none⟩ = some (.int .i64 ((rd_T78 l0 x10_1).f1.f0)) ∧ w'.cell? ⟨gb367, 2, none⟩ = some (.slice A366_2 ((rd_T78 l0 x10_1).f1.f1).length c366_2) ∧ w'.cell? ⟨gb367, 3, none⟩ = some (.int .i64 ((rd_T78 l0 x10_1).f2.f0)) ∧ w'.cell? ⟨gb367, 4, none⟩ = some (.slice A366_4 ((rd_T78 l0 x10_1).f2.f1).length c366_4)) (ds := []) #[false, false, false, false, false, false, false, false, false, false, false, false, false, false, false, false] (by kernel_rfl) rfl rfl ⟨(yaa_ BK367.out 0).trans rfl, (yaa_ BK367.out 1).trans rfl, (yaa_ BK367.out 2).trans rfl, (yaa_ BK367.out 3).trans rfl, (yaa_ BK367.out 4).trans rfl⟩ (fun hHeld => ?_); refine with_tabW order_Looked.tab5 order_Looked.bits5 (fun HT_ HW_ => ?_)
       generalize w31.drew = w32 at BK367 HB hHeld ⊢
       refine pure_ (i := 0) (N := some 15) (v := ?_) (a' := ?_) #[true, false, false, false, false, false, false, false, false, false, false, false, false, false, false, false] rfl rfl (any_of HT_.out (by kernel_rfl)) (fun _ _ _ h => h) (Or.inl ⟨by rfl, ?_⟩) ?_ ?_
       rotate_left
       ·intro w'
        go_simp
        with_reducible rfl
       rotate_left
       ·simp only [Act.put, sA_, sZ_, sS_, i64_w, i32_w]
        rfl
       refine take_ (i := 1) (N := some 16) (v := ?_) (a' := ?_) #[true, true, false, false, false, false, false, false, false, false, false, false, false, false, false, false] rfl rfl (take_ofW HT_.out HW_.out (by kernel_rfl)) (fun _ _ _ h => h) (Or.inl ⟨by rfl, ?_⟩) hHeld ?_ ?_
       rotate_left
       ·rintro w' ⟨s0, s1, s2, s3, s4⟩
        go_simp
        with_reducible rfl
       rotate_left
       ·simp only [Act.put, sA_, sZ_, sS_, i64_w, i32_w]
        rfl
       refine pure_ (i := 2) (N := some 17) (v := ?_) (a' := ?_) #[true, true, true, false, false, false, false, false, false, false, false, false, false, false, false, false] rfl rfl (any_of HT_.out (by kernel_rfl)) (fun _ _ _ h => h) (Or.inl ⟨by rfl, ?_⟩) ?_ ?_
       rotate_left
       ·intro w'
        go_simp
        with_reducible rfl
       rotate_left
       ·simp only [Act.put, sA_, sZ_, sS_, i64_w, i32_w]
        rfl
       refine pure_ (i := 3) (N := some 18) (v := undef) (a' := ?_) #[true, true, true, true, false, false, false, false, false, false, false, false, false, false, false, false] rfl rfl (any_of HT_.out (by kernel_rfl)) (fun _ _ _ h => h) (Or.inr ⟨by rfl, rfl⟩) ?_ ?_
       rotate_left
       ·simp only [Act.put, sA_, sZ_, sS_, i64_w, i32_w]
        rfl
       refine pure_ (i := 4) (N := some 19) (v := undef) (a' := ?_) #[true, true, true, true, true, false, false, false, false, false, false, false, false, false, false, false] rfl rfl (any_of HT_.out (by kernel_rfl)) (fun _ _ _ h => h) (Or.inr ⟨by rfl, rfl⟩) ?_ ?_
       rotate_left
       ·simp only [Act.put, sA_, sZ_, sS_, i64_w, i32_w]
        rfl
       refine pure_ (i := 5) (N := some 20) (v := undef) (a' := ?_) #[true, true, true, true, true, true, false, false, false, false, false, false, false, false, false, false] rfl rfl (any_of HT_.out (by kernel_rfl)) (fun _ _ _ h => h) (Or.inr ⟨by rfl, rfl⟩) ?_ ?_
       rotate_left
       ·simp only [Act.put, sA_, sZ_, sS_, i64_w, i32_w]
        rfl
       refine pure_ (i := 6) (N := some 21) (v := undef) (a' := ?_) #[true, true, true, true, true, true, true, false, false, false, false, false, false, false, false, false] rfl rfl (any_of HT_.out (by kernel_rfl)) (fun _ _ _ h => h) (Or.inr ⟨by rfl, rfl⟩) ?_ ?_
       rotate_left
       ·simp only [Act.put, sA_, sZ_, sS_, i64_w, i32_w]
        rfl
       refine pure_ (i := 7) (N := some 22) (v := undef) (a' := ?_) #[true, true, true, true, true, true, true, true, false, false, false, false, false, false, false, false] rfl rfl (any_of HT_.out (by kernel_rfl)) (fun _ _ _ h => h) (Or.inr ⟨by rfl, rfl⟩) ?_ ?_
       rotate_left
       ·simp only [Act.put, sA_, sZ_, sS_, i64_w, i32_w]
        rfl
       refine pure_ (i := 8) (N := some 23) (v := undef) (a' := ?_) #[true, true, true, true, true, true, true, true, true, false, false, false, false, false, false, false] rfl rfl (any_of HT_.out (by kernel_rfl)) (fun _ _ _ h => h) (Or.inr ⟨by rfl, rfl⟩) ?_ ?_
       rotate_left
       ·simp only [Act.put, sA_, sZ_, sS_, i64_w, i32_w]
        rfl
       refine pure_ (i := 9) (N := some 24) (v := undef) (a' := ?_) #[true, true, true, true, true, true, true, true, true, true, false, false, false, false, false, false] rfl rfl (any_of HT_.out (by kernel_rfl)) (fun _ _ _ h => h) (Or.inr ⟨by rfl, rfl⟩) ?_ ?_
       rotate_left
       ·simp only [Act.put, sA_, sZ_, sS_, i64_w, i32_w]
        rfl
       refine pure_ (i := 10) (N := some 25) (v := undef) (a' := ?_) #[true, true, true, true, true, true, true, true, true, true, true, false, false, false, false, false] rfl rfl (any_of HT_.out (by kernel_rfl)) (fun _ _ _ h => h) (Or.inr ⟨by rfl, rfl⟩) ?_ ?_
       rotate_left
       ·simp only [Act.put, sA_, sZ_, sS_, i64_w, i32_w]
        rfl
       refine pure_ (i := 11) (N := some 26) (v := undef) (a' := ?_) #[true, true, true, true, true, true, true, true, true, true, true, true, false, false, false, false] rfl rfl (any_of HT_.out (by kernel_rfl)) (fun _ _ _ h => h) (Or.inr ⟨by rfl, rfl⟩) ?_ ?_
       rotate_left
       ·simp only [Act.put, sA_, sZ_, sS_, i64_w, i32_w]
        rfl
       refine pure_ (i := 12) (N := some 27) (v := undef) (a' := ?_) #[true, true, true, true, true, true, true, true, true, true, true, true, true, false, false, false] rfl rfl (any_of HT_.out (by kernel_rfl)) (fun _ _ _ h => h) (Or.inr ⟨by rfl, rfl⟩) ?_ ?_
       rotate_left
       ·simp only [Act.put, sA_, sZ_, sS_, i64_w, i32_w]
        rfl
       refine pure_ (i := 13) (N := some 28) (v := undef) (a' := ?_) #[true, true, true, true, true, true, true, true, true, true, true, true, true, true, false, false] rfl rfl (any_of HT_.out (by kernel_rfl)) (fun _ _ _ h => h) (Or.inr ⟨by rfl, rfl⟩) ?_ ?_
       rotate_left
       ·simp only [Act.put, sA_, sZ_, sS_, i64_w, i32_w]
        rfl
       refine pure_ (i := 14) (N := some 29) (v := undef) (a' := ?_) #[true, true, true, true, true, true, true, true, true, true, true, true, true, true, true, false] rfl rfl (any_of HT_.out (by kernel_rfl)) (fun _ _ _ h => h) (Or.inr ⟨by rfl, rfl⟩) ?_ ?_
       rotate_left
       ·simp only [Act.put, sA_, sZ_, sS_, i64_w, i32_w]
        rfl
       refine pure_ (i := 15) (N := some 30) (v := ?_) (a' := ?_) #[true, true, true, true, true, true, true, true, true, true, true, true, true, true, true, true] rfl rfl (any_of HT_.out (by kernel_rfl)) (fun _ _ _ h => h) (Or.inl ⟨by rfl, ?_⟩) ?_ ?_
       rotate_left
       ·intro w'
        go_simp
        with_reducible rfl
       rotate_left
       ·simp only [Act.put, sA_, sZ_, sS_, i64_w, i32_w]
        rfl
       refine done_ (done_of HT_.out (by kernel_rfl)) ?_
       try go_wp2
       go_roundg k1
       case measure => have := HK1.out; omega
       case rel => exact ⟨(x3_1), (wrap64 (x10_1 + 1)), (by first | rfl | (simp; done) | (simp [*]; done)), (by first | rfl | (simp; done) | (simp [*]; done)), H', ⟨by have := HK1.out; omega⟩, ⟨by repeat (first | (with_reducible first | exact HB.out | apply bA_ | apply bN_ | apply bD_ | refine bS_ ?_ GE367.out) | exact HB.out)⟩⟩
     ·rw [if_neg c4] at H
      exact absurd H (by simp)
    ·rw [if_neg c3] at H
     exact absurd H (by simp)
   ·rw [if_neg c2] at H
    have c2b0 : decide (x10_1 < (l0.length : Int)) = false := decide_eq_false c2
    clear c2
    by_cases c33 : x3_1 ≥ 0
    ·rw [if_pos c33] at H
     have c33b0 : decide (0 ≤ x3_1) = true := decide_eq_true c33
     clear c33
     obtain ⟨y371, hy371⟩ : ∃ y_ : List Int, y_ = (([x3_1] : List Int)) := ⟨_, rfl⟩
     replace H : (some y371) = some r := by first | (rw [hy371]; with_reducible exact H) | (have H2_ := (Option.bind_some _ _).symm.trans H; rw [hy371]; with_reducible exact H2_) | (have H2_ := (Option.bind_some _ _).symm.trans H; with_reducible exact H2_) | with_reducible exact H | (rw [hy371]; exact H) | exact H
     have Ny371 := Az_.mk hy371
     clear hy371
     obtain rfl := Option.some.inj H
     go_wp2_with (first | ((with_reducible refine yak_ (N := 36) rfl ?_); refine Kd.R_lit (Kd.int .i64) _ 3 ?hg (N := 36) ?hd (xs := ([x3_1] : List Int)) (inner := [.int .i64 x3_1]) (ok := fun _ => True) (okp := fun _ => True) ?hr ?hp (fun _ hk => hk) trivial (Below.refl _ _) (Nat.le_refl _) (by simp) ?_; (case hd => rfl); (case hg => rfl); (case hr => first | (go_simp; done) | (go_simp; rfl)); (case hp => exact (Reps.one (show Kd.M (Kd.int .i64) _ _ _ x3_1 [.int .i64 x3_1] from rfl) (Reps.none _ _))); intro v372 w34 ho35 hb hg_ hnew_; clear hg_ hnew_; (first | rw [← Ny371.out] at ho35 | (simp only [Int.reduceToNat] at ho35; rw [← Ny371.out] at ho35)); have n0_ := Az_.mk (Kd.R_lower ho35 (bZ_ (by repeat (first | (with_reducible first | exact HB.out | apply bA_ | apply bN_ | apply bD_) | exact HB.out)))); have n1_ := Az_.mk (bT_ (by repeat (first | (with_reducible first | exact HB.out | apply bA_ | apply bN_ | apply bD_) | exact HB.out)) hb); clear HB; have HO373 := n0_; have HB := n1_; clear n0_ n1_; clear hb ho35))
     go_ret
     exact ⟨_, by first | rfl | (simp [yag_, yaf_] <;> rfl) | (simp [*, yag_, yaf_] <;> rfl), by (with_reducible repeat (first | apply Kd.R_alloc | apply Kd.R_drewN | apply Kd.R_drew)); exact HO373.out, by repeat (first | (with_reducible first | exact HB.out | apply bA_ | apply bN_ | apply bD_) | exact HB.out)⟩
    ·rw [if_neg c33] at H
     have c33b0 : decide (0 ≤ x3_1) = false := decide_eq_false c33
     clear c33
     have H' := Az_.mk H
     clear H
     go_wp2
     go_loopg [6, 39] k1 (fun kq v6 v39 w' => ∃ (x6_2 : List Int) (x39_2 : Int), v39 = .int .i64 x39_2 ∧ Az_ (order_Looked.l1 kq l0 x6_2 (l0.length : Int) x39_2 = some r) ∧ Az_ (kq ≤ k1) ∧ Az_ (Kd.R (Kd.int .i64) 3 w' w.heap.size (fun _ => True) v6 x6_2) ∧ Az_ (Below w.heap.size w w'))
     case atStart => exact ⟨(([] : List Int)), (0), (by first | rfl | (simp; done) | (simp [*]; done)), H', ⟨Nat.le_refl _⟩, ⟨by first | exact Kd.R_nil _ _ _ _ _ | exact Kd.N_nil _ _ _ _ _ | exact Kd.V_nil _ _ _ _ _ | exact Kd.Q_nil _ _ _ _ _ | exact Kd.S_nil _ _ _ _ _⟩, ⟨by repeat (first | (with_reducible first | exact HB.out | apply bA_ | apply bN_ | apply bD_) | exact HB.out)⟩⟩
     case round =>
      clear H'
      try clear c1
      try clear c2
      try clear c2b0
      try clear p2
      try clear c3
      try clear p3
      try clear q3
      try clear hx3
      try clear c4
      try clear q5
      try clear c6
      try clear p6
      try clear c8
      try clear c13
      try clear c14
      try clear c16
      try clear c16b0
      try clear c33
      try clear c33b0
      try clear hcz24_0
      try clear hcz24_1
      try clear hcz24_2
      try clear hcz24_3
      try clear hcz24_4
      try clear hcz30_0
      try clear hcz30_1
      try clear hcz30_2
      try clear hcz30_3
      try clear hcz30_4
      try clear hfz24_0
      try clear hfz24_1
      try clear hfz24_2
      try clear hfz24_3
      try clear hfz24_4
      try clear hfz30_0
      try clear hfz30_1
      try clear hfz30_2
      try clear hfz30_3
      try clear hfz30_4
      try clear hx366_0
      try clear hx366_1
      try clear hx366_2
      try clear hx366_3
      try clear hx366_4
      try clear hx369_0
      try clear hx369_1
      try clear hx369_2
      try clear hx369_3
      try clear hx369_4
      try clear p366
      try clear p369
      try clear q366
      try clear q369
      obtain ⟨x6_2, x39_2, rfl, HA, HK2, HO_6, HB⟩ := hrel
      cases gk with
      | zero => exact absurd HA.out (by simp [order_Looked.l1])
      | succ k2 =>
       have H := HA.out
       clear HA
       simp only [order_Looked.l1] at H
       by_cases c36 : x39_2 < (l0.length : Int)
       ·rw [if_pos c36] at H
        have c36b0 : decide (x39_2 < (l0.length : Int)) = true := decide_eq_true c36
        clear c36
        replace H := Option.bind_eq_some_iff.mp H
        obtain ⟨t374, A370, H⟩ := H
        replace H : (if t374 = true then (if x6_2.length < 17592186044416 then (order_Looked.l1 k2 l0 (x6_2 ++ [x39_2]) (l0.length : Int) (wrap64 (x39_2 + 1))) else (none)) else (order_Looked.l1 k2 l0 x6_2 (l0.length : Int) (wrap64 (x39_2 + 1)))) = some r := H
        have A37 := Az_.mk A370
        clear A370
        by_cases c38 : t374 = true
        ·subst c38
         have H1 : (if x6_2.length < 17592186044416 then (order_Looked.l1 k2 l0 (x6_2 ++ [x39_2]) (l0.length : Int) (wrap64 (x39_2 + 1))) else (none)) = some r := by rw [if_pos rfl] at H; exact H
         clear H
         have H := H1
         clear H1
         by_cases c39 : x6_2.length < 17592186044416
         ·rw [if_pos c39] at H
          have LMc39 := Az_.mk c39
          clear c39
          obtain ⟨y375, hy375⟩ : ∃ y_ : List Int, y_ = (x6_2 ++ [x39_2]) := ⟨_, rfl⟩
          replace H : (order_Looked.l1 k2 l0 y375 (l0.length : Int) (wrap64 (x39_2 + 1))) = some r := by first | (rw [hy375]; with_reducible exact H) | (have H2_ := (Option.bind_some _ _).symm.trans H; rw [hy375]; with_reducible exact H2_) | (have H2_ := (Option.bind_some _ _).symm.trans H; with_reducible exact H2_) | with_reducible exact H | (rw [hy375]; exact H) | exact H
          have Ny375 := Az_.mk hy375
          clear hy375
          have H' := Az_.mk H
          clear H
          go_wp2_with (first | ((with_reducible refine yah_ (f := 59) rfl ?_); refine goesL_ (some 44) rfl rfl Try.func59 (by kernel_rfl) rfl #[.slice A0 l0.length c0, .int .i64 x39_2] rfl (by (try simp only [List.map_toArray, List.map_cons, List.map_nil]); first | done | rfl | (simp only [List.length_drop, List.length_take]; rfl)) ?_; (with_reducible refine (order_Greatest.calls _ _ l0 x39_2 true _ ?side1 ?side2 A37.out).mono ?_); (case side1 => repeat (first | exact (Kd.C_below HR0.out HB.out) | (with_reducible refine Kd.C_alloc ?_ _) | (with_reducible refine Kd.C_drewN ?_ _) | (with_reducible refine Kd.C_drew ?_))); (case side2 => exact HC0.out); rintro e w40 ⟨rfl, hb⟩; refine ⟨_, rfl, ?_⟩; have n0_ := Az_.mk (Kd.R_below (by (with_reducible repeat (first | apply Kd.R_alloc | apply Kd.R_drewN | apply Kd.R_drew)); exact HO_6.out) hb); have n1_ := Az_.mk (bT_ (by repeat (first | (with_reducible first | exact HB.out | apply bA_ | apply bN_ | apply bD_) | exact HB.out)) hb); clear HO_6; clear HB; have HO_6 := n0_; have HB := n1_; clear n0_ n1_; (try clear hb); (try clear hb2); (try clear hk); (try clear hi)) | ((with_reducible refine gate_builtin (b := .append) (xs := #[.tmp 45, .tmp 47]) rfl ?_); at_builtin; refine Kd.R_append (Kd.int .i64) (w0 := w) w.heap.size rfl (.tmp 45) (.tmp 47) 25 3 (.int .i64 0) 8 rfl Try.underlying25 info3 rfl (by decide) (by omega) u6 x6_2 x39_2 [.int .i64 x39_2] (fun _ => True) (fun _ => False) rfl rfl ?aP (fun _ hk => hk.elim) ?aF ?aO ?aB ?aS ?aL ?_; (case aP => exact rfl); (case aB => exact (by repeat (first | (with_reducible first | exact HB.out | apply bA_ | apply bN_ | apply bD_) | exact HB.out))); (case aF => exact (fun _ _ => trivial)); (case aO => exact (by (with_reducible repeat (first | apply Kd.R_alloc | apply Kd.R_drewN | apply Kd.R_drew)); exact HO_6.out)); (case aS => exact (bZ_ (by repeat (first | (with_reducible first | exact HB.out | apply bA_ | apply bN_ | apply bD_) | exact HB.out)))); (case aL => have := LMc39.out; omega); intro v376 w41 ho hb hg hat; rw [← Ny375.out] at ho; have n0_ := Az_.mk (hb); have n1_ := Az_.mk (ho); clear HB; clear HO_6; have HB := n0_; have HO377 := n1_; clear n0_ n1_; clear ho hb hg hat))
          go_roundg k2
          case measure => have := HK1.out; have := HK2.out; omega
          case rel => exact ⟨(y375), (wrap64 (x39_2 + 1)), (by first | rfl | (simp; done) | (simp [*]; done)), H', ⟨by have := HK1.out; have := HK2.out; omega⟩, ⟨by (with_reducible repeat (first | apply Kd.R_alloc | apply Kd.R_drewN | apply Kd.R_drew)); exact HO377.out⟩, ⟨by repeat (first | (with_reducible first | exact HB.out | apply bA_ | apply bN_ | apply bD_) | exact HB.out)⟩⟩
         ·rw [if_neg c39] at H
          exact absurd H (by simp)
        ·replace c38 := Bool.eq_false_iff.mpr c38
         subst c38
         have H1 : (order_Looked.l1 k2 l0 x6_2 (l0.length : Int) (wrap64 (x39_2 + 1))) = some r := by rw [if_neg (show ¬ (false = true) by decide)] at H; exact H
         clear H
         have H := H1
         clear H1
         have H' := Az_.mk H
         clear H
         go_wp2_with (first | ((with_reducible refine yah_ (f := 59) rfl ?_); refine goesL_ (some 44) rfl rfl Try.func59 (by kernel_rfl) rfl #[.slice A0 l0.length c0, .int .i64 x39_2] rfl (by (try simp only [List.map_toArray, List.map_cons, List.map_nil]); first | done | rfl | (simp only [List.length_drop, List.length_take]; rfl)) ?_; (with_reducible refine (order_Greatest.calls _ _ l0 x39_2 false _ ?side1 ?side2 A37.out).mono ?_); (case side1 => repeat (first | exact (Kd.C_below HR0.out HB.out) | (with_reducible refine Kd.C_alloc ?_ _) | (with_reducible refine Kd.C_drewN ?_ _) | (with_reducible refine Kd.C_drew ?_))); (case side2 => exact HC0.out); rintro e w42 ⟨rfl, hb⟩; refine ⟨_, rfl, ?_⟩; have n0_ := Az_.mk (Kd.R_below (by (with_reducible repeat (first | apply Kd.R_alloc | apply Kd.R_drewN | apply Kd.R_drew)); exact HO_6.out) hb); have n1_ := Az_.mk (bT_ (by repeat (first | (with_reducible first | exact HB.out | apply bA_ | apply bN_ | apply bD_) | exact HB.out)) hb); clear HO_6; clear HB; have HO_6 := n0_; have HB := n1_; clear n0_ n1_; (try clear hb); (try clear hb2); (try clear hk); (try clear hi)))
         go_roundg k2
         case measure => have := HK1.out; have := HK2.out; omega
         case rel => exact ⟨(x6_2), (wrap64 (x39_2 + 1)), (by first | rfl | (simp; done) | (simp [*]; done)), H', ⟨by have := HK1.out; have := HK2.out; omega⟩, ⟨by (with_reducible repeat (first | apply Kd.R_alloc | apply Kd.R_drewN | apply Kd.R_drew)); exact HO_6.out⟩, ⟨by repeat (first | (with_reducible first | exact HB.out | apply bA_ | apply bN_ | apply bD_) | exact HB.out)⟩⟩
       ·rw [if_neg c36] at H
        have c36b0 : decide (x39_2 < (l0.length : Int)) = false := decide_eq_false c36
        clear c36
        obtain rfl := Option.some.inj H
        go_wp2
        go_ret
        exact ⟨_, by first | rfl | (simp [yag_, yaf_] <;> rfl) | (simp [*, yag_, yaf_] <;> rfl), by (with_reducible repeat (first | apply Kd.R_alloc | apply Kd.R_drewN | apply Kd.R_drew)); exact HO_6.out, by repeat (first | (with_reducible first | exact HB.out | apply bA_ | apply bN_ | apply bD_) | exact HB.out)⟩
end
section
attribute [local go_sem] max2_int min2_int max_two min_two max_three min_three max_four min_four
def soriteslaw14_alive.f (k : Nat)  : Option (Bool) := (order_Looked.f k (([(⟨false, (⟨1, ([] : List (S30))⟩ : S30), (⟨0, ([] : List (S30))⟩ : S30)⟩ : S78), (⟨true, (⟨2, ([] : List (S30))⟩ : S30), (⟨0, ([] : List (S30))⟩ : S30)⟩ : S78)] : List (S78)))).bind fun t381 => (if (t381.length : Int) = 1 then (if 0 < (t381.length : Int) then (if (rd t381 0) = 1 then ((order_Looked.f k ([] : List (S78))).bind fun t385 => (some ((t385.length : Int) == 0))) else (some false)) else (none)) else (some false))
set_option maxHeartbeats 8000000 in
set_option maxRecDepth 100000 in
theorem soriteslaw14_alive.calls (k : Nat)  (r : Bool) (w : World) (h : soriteslaw14_alive.f k  = some r) :
  Calls Try.prog 54 #[] w fun e w' => e = .returned (.bool r) ∧ Below w.heap.size w w' := by
 have hu30 := Try.underlying30
 have hu78 := Try.underlying78
 have HB := Az_.mk (Below.refl w.heap.size w)
 have H : ((order_Looked.f k (([(⟨false, (⟨1, ([] : List (S30))⟩ : S30), (⟨0, ([] : List (S30))⟩ : S30)⟩ : S78), (⟨true, (⟨2, ([] : List (S30))⟩ : S30), (⟨0, ([] : List (S30))⟩ : S30)⟩ : S78)] : List (S78)))).bind fun t381 => (if (t381.length : Int) = 1 then (if 0 < (t381.length : Int) then (if (rd t381 0) = 1 then ((order_Looked.f k ([] : List (S78))).bind fun t385 => (some ((t385.length : Int) == 0))) else (some false)) else (none)) else (some false))) = some r := h
 clear h
 obtain ⟨y378, hy378⟩ : ∃ y_ : List (S78), y_ = (([(⟨false, (⟨1, ([] : List (S30))⟩ : S30), (⟨0, ([] : List (S30))⟩ : S30)⟩ : S78), (⟨true, (⟨2, ([] : List (S30))⟩ : S30), (⟨0, ([] : List (S30))⟩ : S30)⟩ : S78)] : List (S78))) := ⟨_, rfl⟩
 replace H : ((order_Looked.f k y378).bind fun t381 => (if (t381.length : Int) = 1 then (if 0 < (t381.length : Int) then (if (rd t381 0) = 1 then ((order_Looked.f k ([] : List (S78))).bind fun t385 => (some ((t385.length : Int) == 0))) else (some false)) else (none)) else (some false))) = some r := by first | (rw [hy378]; with_reducible exact H) | (have H2_ := (Option.bind_some _ _).symm.trans H; rw [hy378]; with_reducible exact H2_) | (have H2_ := (Option.bind_some _ _).symm.trans H; with_reducible exact H2_) | with_reducible exact H | (rw [hy378]; exact H) | exact H
 have Ny378 := Az_.mk hy378
 clear hy378
 replace H := Option.bind_eq_some_iff.mp H
 obtain ⟨t381, A10, H⟩ := H
 replace H : (if (t381.length : Int) = 1 then (if 0 < (t381.length : Int) then (if (rd t381 0) = 1 then ((order_Looked.f k ([] : List (S78))).bind fun t385 => (some ((t385.length : Int) == 0))) else (some false)) else (none)) else (some false)) = some r := H
 have A1 := Az_.mk A10
 clear A10
 by_cases c2 : (t381.length : Int) = 1
 ·rw [if_pos c2] at H
  have c2b0 : ((t381.length : Int) == 1) = true := beq_iff_eq.mpr c2
  have c2b1 : ((t381.length : Int) != 1) = false := bne_eq_false_iff_eq.mpr c2
  clear c2
  by_cases c3 : 0 < (t381.length : Int)
  ·rw [if_pos c3] at H
   have c3b0 : decide (0 < (t381.length : Int)) = true := decide_eq_true c3
   have c3b1 : decide (0 < t381.length) = true := decide_eq_true (by omega)
   clear c3
   by_cases c4 : (rd t381 0) = 1
   ·rw [if_pos c4] at H
    have c4b0 : ((rd t381 0) == 1) = true := beq_iff_eq.mpr c4
    have c4b1 : ((rd t381 0) != 1) = false := bne_eq_false_iff_eq.mpr c4
    clear c4
    replace H := Option.bind_eq_some_iff.mp H
    obtain ⟨t385, A50, H⟩ := H
    replace H : (some ((t385.length : Int) == 0)) = some r := H
    have A5 := Az_.mk A50
    clear A50
    obtain rfl := Option.some.inj H
    go_enter Try.func54, Try.ntmps54
    go_wp2_with (first | ((with_reducible refine yak_ (N := 6) rfl ?_); (try (refine gate_guard (by rfl) ?_; dsimp only)); refine Kd.R_lit k78 _ 78 ?hg (N := 6) ?hd (xs := ([(⟨false, (⟨1, ([] : List (S30))⟩ : S30), (⟨0, ([] : List (S30))⟩ : S30)⟩ : S78), (⟨true, (⟨2, ([] : List (S30))⟩ : S30), (⟨0, ([] : List (S30))⟩ : S30)⟩ : S78)] : List (S78))) (inner := [.bool false, .int .i64 1, .slice none 0 0, .int .i64 0, .slice none 0 0, .bool true, .int .i64 2, .slice none 0 0, .int .i64 0, .slice none 0 0]) (ok := fun _ => True) (okp := fun _ => True) ?hr ?hp (fun _ hk => hk) trivial (Below.refl _ _) (Nat.le_refl _) (by simp) ?_; (case hd => rfl); (case hg => rfl); (case hr => first | (go_simp; done) | (go_simp; rfl)); (case hp => exact (Reps.c5 (show Kd.M k78 _ _ _ (⟨false, (⟨1, ([] : List (S30))⟩ : S30), (⟨0, ([] : List (S30))⟩ : S30)⟩ : S78) [.bool false, .int .i64 1, .slice none 0 0, .int .i64 0, .slice none 0 0] from (k78_mkM _ _ _ (⟨false, (⟨1, ([] : List (S30))⟩ : S30), (⟨0, ([] : List (S30))⟩ : S30)⟩ : S78) (Kd.R_nil _ _ _ _ _) (Kd.R_nil _ _ _ _ _))) (Reps.c5 (show Kd.M k78 _ _ _ (⟨true, (⟨2, ([] : List (S30))⟩ : S30), (⟨0, ([] : List (S30))⟩ : S30)⟩ : S78) [.bool true, .int .i64 2, .slice none 0 0, .int .i64 0, .slice none 0 0] from (k78_mkM _ _ _ (⟨true, (⟨2, ([] : List (S30))⟩ : S30), (⟨0, ([] : List (S30))⟩ : S30)⟩ : S78) (Kd.R_nil _ _ _ _ _) (Kd.R_nil _ _ _ _ _))) (Reps.none _ _)))); intro v379 w6 ho7 hb hg_ hnew_; clear hg_ hnew_; (first | rw [← Ny378.out] at ho7 | (simp only [Int.reduceToNat] at ho7; rw [← Ny378.out] at ho7)); have n0_ := Az_.mk (Kd.R_lower ho7 (bZ_ (by repeat (first | (with_reducible first | exact HB.out | apply bA_ | apply bN_ | apply bD_) | exact HB.out)))); have n1_ := Az_.mk (bT_ (by repeat (first | (with_reducible first | exact HB.out | apply bA_ | apply bN_ | apply bD_) | exact HB.out)) hb); clear HB; have HO380 := n0_; have HB := n1_; clear n0_ n1_; clear hb ho7; obtain ⟨Ao8, co8, eo8⟩ := Kd.R_slice HO380.out; subst eo8) | ((with_reducible refine yah_ (f := 58) rfl ?_); refine goesL_ (some 7) rfl rfl Try.func58 (by kernel_rfl) rfl #[.slice Ao8 y378.length co8] rfl (by (try simp only [List.map_toArray, List.map_cons, List.map_nil]); first | done | rfl | (simp only [List.length_drop, List.length_take]; rfl)) ?_; (with_reducible refine (order_Looked.calls k _ _ y378 t381 _ ?side1 ?side2 A1.out).mono ?_); (case side1 => repeat (first | exact (Kd.R_reads' HO380.out).2.2 | (with_reducible refine Kd.C_alloc ?_ _) | (with_reducible refine Kd.C_drewN ?_ _) | (with_reducible refine Kd.C_drew ?_))); (case side2 => exact (Kd.R_reads' HO380.out).2.1); rintro e w9 ⟨v382, rfl, ho0, hb⟩; refine ⟨_, rfl, ?_⟩; have n0_ := Az_.mk (Kd.R_below (by (with_reducible repeat (first | apply Kd.R_alloc | apply Kd.R_drewN | apply Kd.R_drew)); exact HO380.out) hb); have n1_ := Az_.mk (Kd.R_lower ho0 (bZ_ (by repeat (first | (with_reducible first | exact HB.out | apply bA_ | apply bN_ | apply bD_) | exact HB.out)))); have n2_ := Az_.mk (bT_ (by repeat (first | (with_reducible first | exact HB.out | apply bA_ | apply bN_ | apply bD_) | exact HB.out)) hb); clear HO380; clear HB; have HO380 := n0_; have HO383 := n1_; have HB := n2_; clear n0_ n1_ n2_; (try clear hb); (try clear hb2); (try clear hk); (try clear hi); (try clear ho0); obtain ⟨Ao10, co10, eo10⟩ := Kd.R_slice HO383.out; subst eo10; have p384 : 0 ≤ (0 : Int) := (by omega); have q384 : 0 < (t381.length : Int) := of_decide_eq_true (by first | (with_reducible assumption) | assumption); obtain ⟨ad384, e384, hx384_0⟩ := Kd.at_int (Kd.R_reads' HO383.out).2.2 0 p384 q384; cases e384; have qi384 : (0 < t381.length) = True := eq_true (by omega); (try rw [show ((0 : Int)).toNat = 0 from rfl] at hx384_0); (try rw [Addr.add_zero'] at hx384_0); replace p384 := eq_true p384; replace q384 := eq_true q384) | (go_at_call 58; (refine (order_Looked.calls k _ _ ([] : List (S78)) t385 _ ?side1 ?side2 A5.out).mono ?_); (case side1 => exact Kd.C_nil _ _); (case side2 => exact Nat.le_refl _); rintro e w11 ⟨v386, rfl, ho0, hb⟩; have n0_ := Az_.mk (Kd.R_below (by (with_reducible repeat (first | apply Kd.R_alloc | apply Kd.R_drewN | apply Kd.R_drew)); exact HO380.out) hb); have n1_ := Az_.mk (Kd.R_elder' (by (with_reducible repeat (first | apply Kd.R_alloc | apply Kd.R_drewN | apply Kd.R_drew)); exact HO383.out) (Kd.R_base ho0) hb); have n2_ := Az_.mk (Kd.R_lower (Kd.R_new' ho0 (Kd.R_lt (by (with_reducible repeat (first | apply Kd.R_alloc | apply Kd.R_drewN | apply Kd.R_drew)); exact HO383.out))) (bZ_ (by repeat (first | (with_reducible first | exact HB.out | apply bA_ | apply bN_ | apply bD_) | exact HB.out)))); have n3_ := Az_.mk (bT_ (by repeat (first | (with_reducible first | exact HB.out | apply bA_ | apply bN_ | apply bD_) | exact HB.out)) hb); clear HO380; clear HO383; clear HB; have HO380 := n0_; have HO383 := n1_; have HO387 := n2_; have HB := n3_; clear n0_ n1_ n2_ n3_; (try clear hb); (try clear hb2); (try clear hk); (try clear hi); (try clear ho0); obtain ⟨Ao12, co12, eo12⟩ := Kd.R_slice HO387.out; subst eo12))
    go_ret
    exact ⟨by first | rfl | (simp [yag_, yaf_] <;> rfl) | (simp [*, yag_, yaf_] <;> rfl), by repeat (first | (with_reducible first | exact HB.out | apply bA_ | apply bN_ | apply bD_) | exact HB.out)⟩
   ·rw [if_neg c4] at H
    have c4b0 : ((rd t381 0) == 1) = false := beq_eq_false_iff_ne.mpr c4
    have c4b1 : ((rd t381 0) != 1) = true := bne_iff_ne.mpr c4
    obtain rfl := Option.some.inj H
    go_enter Try.func54, Try.ntmps54
    go_wp2_with (first | ((with_reducible refine yak_ (N := 6) rfl ?_); (try (refine gate_guard (by rfl) ?_; dsimp only)); refine Kd.R_lit k78 _ 78 ?hg (N := 6) ?hd (xs := ([(⟨false, (⟨1, ([] : List (S30))⟩ : S30), (⟨0, ([] : List (S30))⟩ : S30)⟩ : S78), (⟨true, (⟨2, ([] : List (S30))⟩ : S30), (⟨0, ([] : List (S30))⟩ : S30)⟩ : S78)] : List (S78))) (inner := [.bool false, .int .i64 1, .slice none 0 0, .int .i64 0, .slice none 0 0, .bool true, .int .i64 2, .slice none 0 0, .int .i64 0, .slice none 0 0]) (ok := fun _ => True) (okp := fun _ => True) ?hr ?hp (fun _ hk => hk) trivial (Below.refl _ _) (Nat.le_refl _) (by simp) ?_; (case hd => rfl); (case hg => rfl); (case hr => first | (go_simp; done) | (go_simp; rfl)); (case hp => exact (Reps.c5 (show Kd.M k78 _ _ _ (⟨false, (⟨1, ([] : List (S30))⟩ : S30), (⟨0, ([] : List (S30))⟩ : S30)⟩ : S78) [.bool false, .int .i64 1, .slice none 0 0, .int .i64 0, .slice none 0 0] from (k78_mkM _ _ _ (⟨false, (⟨1, ([] : List (S30))⟩ : S30), (⟨0, ([] : List (S30))⟩ : S30)⟩ : S78) (Kd.R_nil _ _ _ _ _) (Kd.R_nil _ _ _ _ _))) (Reps.c5 (show Kd.M k78 _ _ _ (⟨true, (⟨2, ([] : List (S30))⟩ : S30), (⟨0, ([] : List (S30))⟩ : S30)⟩ : S78) [.bool true, .int .i64 2, .slice none 0 0, .int .i64 0, .slice none 0 0] from (k78_mkM _ _ _ (⟨true, (⟨2, ([] : List (S30))⟩ : S30), (⟨0, ([] : List (S30))⟩ : S30)⟩ : S78) (Kd.R_nil _ _ _ _ _) (Kd.R_nil _ _ _ _ _))) (Reps.none _ _)))); intro v379 w13 ho14 hb hg_ hnew_; clear hg_ hnew_; (first | rw [← Ny378.out] at ho14 | (simp only [Int.reduceToNat] at ho14; rw [← Ny378.out] at ho14)); have n0_ := Az_.mk (Kd.R_lower ho14 (bZ_ (by repeat (first | (with_reducible first | exact HB.out | apply bA_ | apply bN_ | apply bD_) | exact HB.out)))); have n1_ := Az_.mk (bT_ (by repeat (first | (with_reducible first | exact HB.out | apply bA_ | apply bN_ | apply bD_) | exact HB.out)) hb); clear HB; have HO380 := n0_; have HB := n1_; clear n0_ n1_; clear hb ho14; obtain ⟨Ao15, co15, eo15⟩ := Kd.R_slice HO380.out; subst eo15) | ((with_reducible refine yah_ (f := 58) rfl ?_); refine goesL_ (some 7) rfl rfl Try.func58 (by kernel_rfl) rfl #[.slice Ao15 y378.length co15] rfl (by (try simp only [List.map_toArray, List.map_cons, List.map_nil]); first | done | rfl | (simp only [List.length_drop, List.length_take]; rfl)) ?_; (with_reducible refine (order_Looked.calls k _ _ y378 t381 _ ?side1 ?side2 A1.out).mono ?_); (case side1 => repeat (first | exact (Kd.R_reads' HO380.out).2.2 | (with_reducible refine Kd.C_alloc ?_ _) | (with_reducible refine Kd.C_drewN ?_ _) | (with_reducible refine Kd.C_drew ?_))); (case side2 => exact (Kd.R_reads' HO380.out).2.1); rintro e w16 ⟨v382, rfl, ho0, hb⟩; refine ⟨_, rfl, ?_⟩; have n0_ := Az_.mk (Kd.R_below (by (with_reducible repeat (first | apply Kd.R_alloc | apply Kd.R_drewN | apply Kd.R_drew)); exact HO380.out) hb); have n1_ := Az_.mk (Kd.R_lower ho0 (bZ_ (by repeat (first | (with_reducible first | exact HB.out | apply bA_ | apply bN_ | apply bD_) | exact HB.out)))); have n2_ := Az_.mk (bT_ (by repeat (first | (with_reducible first | exact HB.out | apply bA_ | apply bN_ | apply bD_) | exact HB.out)) hb); clear HO380; clear HB; have HO380 := n0_; have HO383 := n1_; have HB := n2_; clear n0_ n1_ n2_; (try clear hb); (try clear hb2); (try clear hk); (try clear hi); (try clear ho0); obtain ⟨Ao17, co17, eo17⟩ := Kd.R_slice HO383.out; subst eo17; have p384 : 0 ≤ (0 : Int) := (by omega); have q384 : 0 < (t381.length : Int) := of_decide_eq_true (by first | (with_reducible assumption) | assumption); obtain ⟨ad384, e384, hx384_0⟩ := Kd.at_int (Kd.R_reads' HO383.out).2.2 0 p384 q384; cases e384; have qi384 : (0 < t381.length) = True := eq_true (by omega); (try rw [show ((0 : Int)).toNat = 0 from rfl] at hx384_0); (try rw [Addr.add_zero'] at hx384_0); replace p384 := eq_true p384; replace q384 := eq_true q384))
    go_ret
    exact ⟨by first | rfl | (simp [yag_, yaf_] <;> rfl) | (simp [*, yag_, yaf_] <;> rfl), by repeat (first | (with_reducible first | exact HB.out | apply bA_ | apply bN_ | apply bD_) | exact HB.out)⟩
  ·rw [if_neg c3] at H
   exact absurd H (by simp)
 ·rw [if_neg c2] at H
  have c2b0 : ((t381.length : Int) == 1) = false := beq_eq_false_iff_ne.mpr c2
  have c2b1 : ((t381.length : Int) != 1) = true := bne_iff_ne.mpr c2
  obtain rfl := Option.some.inj H
  go_enter Try.func54, Try.ntmps54
  go_wp2_with (first | ((with_reducible refine yak_ (N := 6) rfl ?_); (try (refine gate_guard (by rfl) ?_; dsimp only)); refine Kd.R_lit k78 _ 78 ?hg (N := 6) ?hd (xs := ([(⟨false, (⟨1, ([] : List (S30))⟩ : S30), (⟨0, ([] : List (S30))⟩ : S30)⟩ : S78), (⟨true, (⟨2, ([] : List (S30))⟩ : S30), (⟨0, ([] : List (S30))⟩ : S30)⟩ : S78)] : List (S78))) (inner := [.bool false, .int .i64 1, .slice none 0 0, .int .i64 0, .slice none 0 0, .bool true, .int .i64 2, .slice none 0 0, .int .i64 0, .slice none 0 0]) (ok := fun _ => True) (okp := fun _ => True) ?hr ?hp (fun _ hk => hk) trivial (Below.refl _ _) (Nat.le_refl _) (by simp) ?_; (case hd => rfl); (case hg => rfl); (case hr => first | (go_simp; done) | (go_simp; rfl)); (case hp => exact (Reps.c5 (show Kd.M k78 _ _ _ (⟨false, (⟨1, ([] : List (S30))⟩ : S30), (⟨0, ([] : List (S30))⟩ : S30)⟩ : S78) [.bool false, .int .i64 1, .slice none 0 0, .int .i64 0, .slice none 0 0] from (k78_mkM _ _ _ (⟨false, (⟨1, ([] : List (S30))⟩ : S30), (⟨0, ([] : List (S30))⟩ : S30)⟩ : S78) (Kd.R_nil _ _ _ _ _) (Kd.R_nil _ _ _ _ _))) (Reps.c5 (show Kd.M k78 _ _ _ (⟨true, (⟨2, ([] : List (S30))⟩ : S30), (⟨0, ([] : List (S30))⟩ : S30)⟩ : S78) [.bool true, .int .i64 2, .slice none 0 0, .int .i64 0, .slice none 0 0] from (k78_mkM _ _ _ (⟨true, (⟨2, ([] : List (S30))⟩ : S30), (⟨0, ([] : List (S30))⟩ : S30)⟩ : S78) (Kd.R_nil _ _ _ _ _) (Kd.R_nil _ _ _ _ _))) (Reps.none _ _)))); intro v379 w18 ho19 hb hg_ hnew_; clear hg_ hnew_; (first | rw [← Ny378.out] at ho19 | (simp only [Int.reduceToNat] at ho19; rw [← Ny378.out] at ho19)); have n0_ := Az_.mk (Kd.R_lower ho19 (bZ_ (by repeat (first | (with_reducible first | exact HB.out | apply bA_ | apply bN_ | apply bD_) | exact HB.out)))); have n1_ := Az_.mk (bT_ (by repeat (first | (with_reducible first | exact HB.out | apply bA_ | apply bN_ | apply bD_) | exact HB.out)) hb); clear HB; have HO380 := n0_; have HB := n1_; clear n0_ n1_; clear hb ho19; obtain ⟨Ao20, co20, eo20⟩ := Kd.R_slice HO380.out; subst eo20) | ((with_reducible refine yah_ (f := 58) rfl ?_); refine goesL_ (some 7) rfl rfl Try.func58 (by kernel_rfl) rfl #[.slice Ao20 y378.length co20] rfl (by (try simp only [List.map_toArray, List.map_cons, List.map_nil]); first | done | rfl | (simp only [List.length_drop, List.length_take]; rfl)) ?_; (with_reducible refine (order_Looked.calls k _ _ y378 t381 _ ?side1 ?side2 A1.out).mono ?_); (case side1 => repeat (first | exact (Kd.R_reads' HO380.out).2.2 | (with_reducible refine Kd.C_alloc ?_ _) | (with_reducible refine Kd.C_drewN ?_ _) | (with_reducible refine Kd.C_drew ?_))); (case side2 => exact (Kd.R_reads' HO380.out).2.1); rintro e w21 ⟨v382, rfl, ho0, hb⟩; refine ⟨_, rfl, ?_⟩; have n0_ := Az_.mk (Kd.R_below (by (with_reducible repeat (first | apply Kd.R_alloc | apply Kd.R_drewN | apply Kd.R_drew)); exact HO380.out) hb); have n1_ := Az_.mk (Kd.R_lower ho0 (bZ_ (by repeat (first | (with_reducible first | exact HB.out | apply bA_ | apply bN_ | apply bD_) | exact HB.out)))); have n2_ := Az_.mk (bT_ (by repeat (first | (with_reducible first | exact HB.out | apply bA_ | apply bN_ | apply bD_) | exact HB.out)) hb); clear HO380; clear HB; have HO380 := n0_; have HO383 := n1_; have HB := n2_; clear n0_ n1_ n2_; (try clear hb); (try clear hb2); (try clear hk); (try clear hi); (try clear ho0); obtain ⟨Ao22, co22, eo22⟩ := Kd.R_slice HO383.out; subst eo22))
  go_ret
  exact ⟨by first | rfl | (simp [yag_, yaf_] <;> rfl) | (simp [*, yag_, yaf_] <;> rfl), by repeat (first | (with_reducible first | exact HB.out | apply bA_ | apply bN_ | apply bD_) | exact HB.out)⟩
end
section
attribute [local go_sem] max2_int min2_int max_two min_two max_three min_three max_four min_four
def soritesref14_Greatest.l0 : Nat → List (S81) → Int → Int → Option (Bool)
 | 0, _, _, _ => none
 | k + 1, x0, x1, x5 => if x5 < (x0.length : Int) then (if 0 ≤ x5 then (if 0 ≤ x1 then (if x1 < (x0.length : Int) then ((soritesref14_Greater.f k ((rd_T81 x0 x5).f0) ((rd_T81 x0 x5).f1.f0) ((rd_T81 x0 x5).f1.f1) ((rd_T81 x0 x5).f2.f0) ((rd_T81 x0 x5).f2.f1) ((rd_T81 x0 x1).f0) ((rd_T81 x0 x1).f1.f0) ((rd_T81 x0 x1).f1.f1) ((rd_T81 x0 x1).f2.f0) ((rd_T81 x0 x1).f2.f1)).bind fun t445 => (if t445 = true then (some false) else (soritesref14_Greatest.l0 k x0 x1 (wrap64 (x5 + 1))))) else (none)) else (none)) else (none)) else (some true)
def soritesref14_Greatest.f (k : Nat) (l0 : List (S81)) (a1 : Int) : Option (Bool) := soritesref14_Greatest.l0 k l0 a1 0
end
section
attribute [local go_sem] max2_int min2_int max_two min_two max_three min_three max_four min_four
def soritesref14_weight.f (k : Nat) (a0_0 : Bool) (a0_1 : Int) (l0_2 : List (S24)) (a0_3 : Int) (l0_4 : List (S24)) : Option (Int) := (soritesref06_Flat.f k a0_1 l0_2).bind fun t449 => ((soritesref06_Flat.f k a0_3 l0_4).bind fun t452 => (some (wrap64 ((t449.length : Int) + (t452.length : Int)))))
end
section
attribute [local go_sem] max2_int min2_int max_two min_two max_three min_three max_four min_four
mutual
def soritesref14_Looked.l0 : Nat → List (S81) → Int → Int → Option (List Int)
 | 0, _, _, _ => none
 | k + 1, x0, x3, x4 => if x4 < (x0.length : Int) then (if 0 ≤ x4 then (if (rd_T81 x0 x4).f0 = true then ((soritesref14_weight.f k ((rd_T81 x0 x4).f0) ((rd_T81 x0 x4).f1.f0) ((rd_T81 x0 x4).f1.f1) ((rd_T81 x0 x4).f2.f0) ((rd_T81 x0 x4).f2.f1)).bind fun t457 => (if t457 > x3 then ((soritesref14_weight.f k ((rd_T81 x0 x4).f0) ((rd_T81 x0 x4).f1.f0) ((rd_T81 x0 x4).f1.f1) ((rd_T81 x0 x4).f2.f0) ((rd_T81 x0 x4).f2.f1)).bind fun t459 => (soritesref14_Looked.l0 k x0 t459 (wrap64 (x4 + 1)))) else (soritesref14_Looked.l0 k x0 x3 (wrap64 (x4 + 1))))) else (soritesref14_Looked.l0 k x0 x3 (wrap64 (x4 + 1)))) else (none)) else (soritesref14_Looked.l1 k x0 x3 ([] : List Int) 0)
def soritesref14_Looked.l1 : Nat → List (S81) → Int → List Int → Int → Option (List Int)
 | 0, _, _, _, _ => none
 | k + 1, x0, x3, x5, x6 => if x6 < (x0.length : Int) then (if x3 > 0 then (if 0 ≤ x6 then (if (rd_T81 x0 x6).f0 = true then ((soritesref14_weight.f k ((rd_T81 x0 x6).f0) ((rd_T81 x0 x6).f1.f0) ((rd_T81 x0 x6).f1.f1) ((rd_T81 x0 x6).f2.f0) ((rd_T81 x0 x6).f2.f1)).bind fun t462 => (soritesref14_Looked.j2 k x0 x3 x5 x6 (t462 == x3))) else (soritesref14_Looked.j2 k x0 x3 x5 x6 false)) else (none)) else (soritesref14_Looked.j2 k x0 x3 x5 x6 false)) else (some x5)
def soritesref14_Looked.j2 : Nat → List (S81) → Int → List Int → Int → Bool → Option (List Int)
 | 0, _, _, _, _, _ => none
 | k + 1, x0, x3, x5, x6, x55 => if x55 = true then (some (([x6] : List Int))) else (if x3 = 0 then ((soritesref14_Greatest.f k x0 x6).bind fun t466 => (if t466 = true then (if x5.length < 17592186044416 then (soritesref14_Looked.l1 k x0 x3 (x5 ++ [x6]) (wrap64 (x6 + 1))) else (none)) else (soritesref14_Looked.l1 k x0 x3 x5 (wrap64 (x6 + 1))))) else (soritesref14_Looked.l1 k x0 x3 x5 (wrap64 (x6 + 1))))
end
def soritesref14_Looked.f (k : Nat) (l0 : List (S81)) : Option (List Int) := soritesref14_Looked.l0 k l0 0 0
end
end Go.Proofs.Ytpfddihcikiofaa.P
