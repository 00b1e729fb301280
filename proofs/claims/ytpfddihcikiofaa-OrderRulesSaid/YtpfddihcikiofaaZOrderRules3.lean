/- The law OrderRules holds of every input. Part 3 of 6: GDetK, GDel, GIdx, GRow, GDelF, GWalk, GRange, GSize, GFlat, PxCmpIsNaNInt, PxCmpCompareInt, PxCmpOrInt, GCompare, PxTermParts, PxTermClone, PxTermSame, GCmp, GLaw06, GCovers, PxSoritesref06Same, PxSoritesref06Flat, PxSoritesref06Vars, GSpec, PxSoritesref10Count, PxSoritesref10Covers, PxSoritesref10Greater. -/
import Derived.Test.YtpfddihcikiofaaZOrderRules2
import Derived.Shelf.Abstract
import Derived.Shelf.RegionOpenPlain
import Derived.Deep.RegionLaw
import Derived.Lib.SliceRun
import Derived.WalkSpells
import Derived.RangeFuncNested
import Derived.RangeFuncBound
import Derived.RangeFuncCalls
import Derived.RangeFuncLeaves
import Derived.Shelf.RegionOpen
import Derived.WalkKit
import Derived.OwnWalkIn
import Derived.TacticsInMore
import Derived.LoopNIn
import Derived.LoopIn
import Derived.Deep.RegionLawGrows
import Derived.Maps.OwnIn
import Derived.Deep.DeepMust
import Derived.Maps.OwnOps
import Derived.Maps.RangeWalk
import Derived.Test.YtpfddihcikiofaaZOrderRules1
namespace Go.Proofs.Ytpfddihcikiofaa.P
open Go.RowKit Go.Proofs.YtpfddihcikiofaaW.PrintWords Go.Proofs.YtpfddihcikiofaaW.PrintLast Go.Proofs.YtpfddihcikiofaaW.PrintMore
set_option linter.unusedVariables false
set_option linter.unusedSimpArgs false
section
def DetIN (N : Nat) (w0 : World) (ps : List Told) (v : Nat → Value) (d : Nat → Bool) (w : World) : Prop := Below N w0 w ∧ ∀ j, d j = true → ∀ p, ps[j]? = some p → p (v j) w
section
variable {P : Program} {ops : Array Oper} {Q : Exit → Act → World → Prop}
def DetStepK (P : Program) (ops : Array Oper) (Q : Exit → Act → World → Prop) (base : Array Value) (ds : List Deferred) (w0 : World) (N : Nat) (F : World → World → Prop) (J : BoxI) (rs : List Told) (i : Nat) (o : Oper) (p : Told) : Prop :=
 ∀ (v : Nat → Value) (d : Nat → Bool) (T : Array Value) (w : World), Below N w0 w → J v d w → d i = false →
  (∀ j t p, j < i → (o.after.any fun e => Region.binds .any e && decide (e.on = j)) = true → dstOf ops j = some t → rs[i - 1 - j]? = some p → p (T.getD t undef) w) →
  (∀ j, (o.after.any fun e => Region.binds .any e && decide (e.on = j)) = true → d j = true ∧ ∀ t, dstOf ops j = some t → T.getD t undef = v j) →
  (∀ t, ((List.range ops.size).all fun j => decide (dstOf ops j ≠ some t)) = true → T.getD t undef = base.getD t undef) →
  ∀ K : Act → World → Prop, (∀ u w2, F w w2 → Below N w0 w2 → p u w2 → J (upd v i u) (upd d i true) w2 → K ({ tmps := T, defers := ds : Act }.put o.dst u) w2) →
   if Region.wanted o (yielded ops T) = true then Oper.wp P o { tmps := T, defers := ds } w K Q else K ({ tmps := T, defers := ds : Act }.put o.dst undef) w
def DetK (P : Program) (ops : Array Oper) (Q : Exit → Act → World → Prop) (base : Array Value) (ds : List Deferred) (w0 : World) (N : Nat) (F : World → World → Prop) (J : BoxI) (m i : Nat) (rs : List Told) : Prop :=
 rs.length = i → ∃ full : List Told, full.length = m ∧ full.take i = rs.reverse ∧
  (∀ j, i ≤ j → j < m → ∀ o p, ops[j]? = some o → full[j]? = some p → p.keeps F ∧ DetStepK P ops Q base ds w0 N F J (full.take j).reverse j o p) ∧
  ∀ v w', Below N w0 w' → (∀ (j : Nat) (p : Told), full[j]? = some p → p (v j) w') → (∀ d, (∀ i, i < m → d i = true) → J v d w' → Q .normal { tmps := layAll ops v base, defers := ds } w')
theorem DetK.cons {base : Array Value} {ds : List Deferred} {w0 : World} {N : Nat} {F : World → World → Prop} {J : BoxI} {m i : Nat} {rs : List Told} {o : Oper} (p : Told) (ho : ops[i]? = some o) (him : i < m) (hg : p.keeps F)
  (h : DetStepK P ops Q base ds w0 N F J rs i o p) (hs : DetK P ops Q base ds w0 N F J m (i + 1) (p :: rs)) : DetK P ops Q base ds w0 N F J m i rs := fun hl => by
 obtain ⟨full, h1, h2, h3, h4⟩ := hs (by rw [List.length_cons, hl])
 rw [List.reverse_cons] at h2
 have htk : full.take i = rs.reverse := by
  have h5 : full.take i = (full.take (i + 1)).take i := by rw [List.take_take, Nat.min_eq_left (by omega)]
  rw [h5, h2, List.take_append_of_le_length (by rw [List.length_reverse]; omega), List.take_of_length_le (by rw [List.length_reverse]; omega)]
 refine ⟨full, h1, htk, fun j hj hjm o' p' ho' hp' => ?_, h4⟩
 rcases Nat.lt_or_ge i j with hlt | hge
 ·exact h3 j hlt hjm o' p' ho' hp'
 ·have hji : j = i := by omega
  subst hji
  rw [ho] at ho'
  injection ho' with ho'
  subst ho'
  have h5 : full[j]? = some p := by
   have h6 : (full.take (j + 1))[j]? = (rs.reverse ++ [p])[j]? := by rw [h2]
   rw [List.getElem?_take_of_lt (by omega), List.getElem?_append_right (by rw [List.length_reverse]; omega)] at h6
   rw [h6]
   simp [hl]
  rw [h5] at hp'
  injection hp' with hp'
  subst hp'
  rw [htk, List.reverse_reverse]
  exact ⟨hg, h⟩
theorem region_detK {id : Nat} {a : Act} {w : World} (N : Nat) (hN : N ≤ w.heap.size) (F : World → World → Prop) (J : BoxI) (m : Nat) (hF : F w w.drew) (hJ : ∀ v, J v (fun _ => false) w.drew) (hm : P.follows .mixedOrders = true) (hr : regionOk ops a.tmps.size = true) (hms : ops.size = m) (h : DetK P ops Q a.tmps a.defers w N F J m 0 []) : (Code.region id ops true).wp P Q a w := by
 obtain ⟨full, h1, _, h3, h4⟩ := h rfl
 refine region_vals hm hr (fun v d w' => DetIN N w full v d w' ∧ J v d w') (fun v => ⟨⟨(bN_ (Below.refl _ _) 1 : Below w.heap.size w _).mono hN, fun j hj => by cases hj⟩, hJ v⟩) (fun i => ?_)
  (fun v d w' hall hI => h4 v w' hI.1.1 (fun j p hp => hI.1.2 j (hall j (by have := (List.getElem?_eq_some_iff.1 hp).1; omega)) p hp) d (fun i hi => hall i (by omega)) hI.2)
 intro o ho v d T w' hH hI hd hdep K hK
 have him : i < m := by have := (Array.getElem?_eq_some_iff.1 ho).1; omega
 have hp : full[i]? = some full[i] := List.getElem?_eq_getElem (by omega)
 obtain ⟨hg, hs⟩ := h3 i (Nat.zero_le _) him o _ ho hp
 have hlen : (full.take i).reverse.length = i := by rw [List.length_reverse, List.length_take]; omega
 have hd2 : ∀ j, (o.after.any fun e => Region.binds .any e && decide (e.on = j)) = true → d j = true := by
  intro j hj
  rw [Array.any_eq_true'] at hj
  obtain ⟨e, he, h5⟩ := hj
  rw [Bool.and_eq_true, decide_eq_true_eq] at h5
  rw [← h5.2]
  exact hdep e he h5.1
 refine hs v d T w' hI.1.1 hI.2 hd (fun j t p hji hj hjt hjp => ?_) (fun j hj => ⟨hd2 j hj, fun t ht => hH.done j t (hd2 j hj) ht⟩) (fun t ht => hH.base t (fun j _ e => ?_)) K (fun u w2 hF2 hb2 hu hJ2 => hK u w2 ⟨⟨hb2, fun j hj p hjp => ?_⟩, hJ2⟩)
 ·have hdj := hd2 j hj
  rw [hH.done j t hdj hjt]
  have h6 := rev_at hlen hji hjp
  rw [List.reverse_reverse, List.getElem?_take_of_lt hji] at h6
  exact hI.1.2 j hdj p h6
 ·rw [List.all_eq_true] at ht
  rcases Nat.lt_or_ge j ops.size with hlt | hge
  ·exact of_decide_eq_true (ht j (List.mem_range.2 hlt)) e
  ·unfold dstOf at e
   rw [Array.getElem?_eq_none hge] at e
   cases e
 ·by_cases hji : j = i
  ·subst hji
   rw [hp] at hjp
   injection hjp with hjp
   subst hjp
   rw [upd_same]
   exact hu
  ·rw [yag_ _ _ hji] at hj ⊢
   have hjm : j < m := by have := (List.getElem?_eq_some_iff.1 hjp).1; omega
   exact (h3 j (Nat.zero_le _) hjm _ p (Array.getElem?_eq_getElem (by omega)) hjp).1 _ _ _ (hI.1.2 j hj p hjp) hF2
theorem DetK.told {base : Array Value} {ds : List Deferred} {w0 : World} {N : Nat} {F : World → World → Prop} {J : BoxI} {m i : Nat} {rs : List Told} {o : Oper} (hN : N ≤ w0.heap.size) (hF : ∀ w w', Below w.heap.size w w' → F w w') (S : List Nat)
  (hJ : ∀ i, i ∉ S → ∀ v d (w w' : World) u, J v d w → d i = false → Below w.heap.size w w' → J (upd v i u) (upd d i true) w') (p : Told) (ho : ops[i]? = some o) (him : i < m) (hS : i ∉ S) (hg : p.keeps F)
  (h : ∀ (T : Array Value) (w : World), Below N w0 w →
   (∀ j t p, j < i → (o.after.any fun e => Region.binds .any e && decide (e.on = j)) = true → dstOf ops j = some t → rs[i - 1 - j]? = some p → p (T.getD t undef) w) →
   (∀ t, ((List.range ops.size).all fun j => decide (dstOf ops j ≠ some t)) = true → T.getD t undef = base.getD t undef) →
   ∀ K : Act → World → Prop, (∀ u w2, Below w.heap.size w w2 → p u w2 → K ({ tmps := T, defers := ds : Act }.put o.dst u) w2) →
    if Region.wanted o (yielded ops T) = true then Oper.wp P o { tmps := T, defers := ds } w K Q else K ({ tmps := T, defers := ds : Act }.put o.dst undef) w)
  (hs : DetK P ops Q base ds w0 N F J m (i + 1) (p :: rs)) : DetK P ops Q base ds w0 N F J m i rs :=
 DetK.cons p ho him hg (fun v d T w hb hj hd h1 h2 hB K hK => h T w hb h1 hB K (fun u w2 hb2 hu => hK u w2 (hF _ _ hb2) (hb.trans (hb2.mono (Nat.le_trans hN hb.size))) hu (hJ i hS v d w w2 u hj hd hb2))) hs
theorem DetK.done {base : Array Value} {ds : List Deferred} {w0 : World} {N : Nat} {F : World → World → Prop} {J : BoxI} {m i : Nat} {rs : List Told} (l : List (Option Tmp)) (hd : (List.range m).map (dstOf ops) = l) (hms : ops.size = m) (hi : i = m)
  (h : ∀ v d w', Below N w0 w' → (∀ (j : Nat) (p : Told), j < m → rs[m - 1 - j]? = some p → p (v j) w') → (∀ i, i < m → d i = true) → J v d w' → Q .normal { tmps := layL l 0 v base, defers := ds } w') : DetK P ops Q base ds w0 N F J m i rs := fun hl => by
 subst hi
 refine ⟨rs.reverse, by rw [List.length_reverse]; exact hl, List.take_of_length_le (by rw [List.length_reverse]; omega), fun j hj hjm => by omega, fun v w' hb hv d hall hJ => ?_⟩
 have e : layAll ops v base = layL l 0 v base := by
  rw [← layFirst_layL hd]
  unfold layAll layFirst
  rw [hms]
  try rfl
 rw [e]
 exact h v d w' hb (fun j p hj h1 => hv j p (rev_at hl hj h1)) hall hJ
end
end
section
structure SB (g : Nat) (w w' : World) : Prop where
 below : Below g w w'
 far : ∀ k, k ≠ g → k < w.heap.size → w'.heap[k]? = w.heap[k]?
theorem SB.refl (g : Nat) (w : World) : SB g w w := ⟨Below.refl _ _, fun _ _ _ => rfl⟩
theorem SB.setCell {g : Nat} {w w' : World} (h : SB g w w') (o : Nat) (v : Value) : SB g w (w'.setCell ⟨g, o, none⟩ v) := ⟨h.below.setCell (Nat.le_refl g) _, fun k hk hl => (Below.heap_setCell _ _ _ k hk).trans (h.far k hk hl)⟩
theorem SB.setCells {g : Nat} {w : World} : ∀ (vs : List Value) (o : Nat) (w' : World), SB g w w' → SB g w (w'.setCells g o vs)
 | [], _, _, h => h
 | v :: r, o, w', h => SB.setCells r (o + 1) _ (h.setCell o v)
theorem setCell_sz (w : World) (a : Addr) (v : Value) : (w.setCell a v).heap.size = w.heap.size := by
 unfold World.setCell
 split <;> simp
theorem setCells_size (g : Nat) : ∀ (vs : List Value) (o : Nat) (w : World), (w.setCells g o vs).heap.size = w.heap.size
 | [], _, _ => rfl
 | v :: r, o, w => by rw [World.setCells, setCells_size g r, setCell_sz]
theorem blk_setCells {t : TypeId} {g : Nat} : ∀ (vs : List Value) (o : Nat) (w : World) (cs : Array Value), w.heap[g]? = some (.cells cs t (0, 0)) → o + vs.length ≤ cs.size →
  ∃ cs', (w.setCells g o vs).heap[g]? = some (.cells cs' t (0, 0)) ∧ cs'.size = cs.size ∧ ∀ j, cs'[j]? = if o ≤ j ∧ j < o + vs.length then vs[j - o]? else cs[j]?
 | [], o, w, cs, h, _ => ⟨cs, h, rfl, fun j => by rw [if_neg (by simp only [List.length_nil]; omega)]⟩
 | v :: r, o, w, cs, h, hl => by
  simp only [List.length_cons] at hl
  obtain ⟨cs', h1, h2, h3⟩ := blk_setCells r (o + 1) (w.setCell ⟨g, o, none⟩ v) (cs.setIfInBounds o v) (blk_set h o v) (by rw [Array.size_setIfInBounds]; omega)
  refine ⟨cs', h1, by rw [h2, Array.size_setIfInBounds], fun j => ?_⟩
  rw [h3 j]
  by_cases hj : j = o
  ·subst hj
   rw [if_neg (by omega), if_pos (by simp), Array.getElem?_setIfInBounds, if_pos rfl, if_pos (by omega)]
   simp
  ·have h5 : (cs.setIfInBounds o v)[j]? = cs[j]? := by rw [Array.getElem?_setIfInBounds, if_neg (fun e => hj e.symm)]
   rw [h5]
   simp only [List.length_cons]
   by_cases h4 : o + 1 ≤ j ∧ j < o + 1 + r.length
   ·rw [if_pos h4, if_pos (by omega), show j - o = (j - (o + 1)) + 1 by omega, List.getElem?_cons_succ]
   ·rw [if_neg h4, if_neg (by omega)]
theorem clear_T (w : World) (g o n c : Nat) (cs : Array Value) (hg : w.heap[g]? = some (.cells cs 30 (0, 0))) (ho : o + n * 2 ≤ cs.size) :
  ∃ zs : List Value, zs.length = n * 2 ∧ (∀ v ∈ zs, v.oneCell' = true) ∧ ∀ ty, (Builtin.clear_ #[28] ty #[.slice (some ⟨g, o, none⟩) n c]).run Try.prog w = .ok (.tuple #[]) (w.setCells g o zs) := by
 have hzv := Try.zeroValue30
 refine ⟨(Builtin.zeroCells #[.int .i64 0, .slice none 0 0] n).toList, by simp [Builtin.zeroCells], fun v hv => ?_, ?_⟩
 ·simp [Builtin.zeroCells] at hv
  obtain ⟨i, hi, rfl⟩ := hv
  have : i % 2 = 0 ∨ i % 2 = 1 := by omega
  rcases this with h | h <;> simp [h] <;> rfl
 ·intro ty
  have hst := run_storeCells_cells (P := Try.prog) g o (Builtin.zeroCells #[.int .i64 0, .slice none 0 0] n).toList 0 w (fun j hj => ?_) (fun j hj => ?_) (fun v hv => ?_)
  ·simp only [Nat.add_zero] at hst
   cases n with
   | zero =>
    simp [Builtin.clear_, run_underlying Try.underlying28, Builtin.zeroCells, World.setCells]
   | succ m =>
    simp [Builtin.clear_, run_underlying Try.underlying28, hzv]
    rw [show (Value.agg #[.int .i64 0, .slice none 0 0]).cells = #[.int .i64 0, .slice none 0 0] from rfl, hst]
    rfl
  ·rw [Nat.add_zero, yaa_ hg]
   simp [Builtin.zeroCells] at hj
   simp
   omega
  ·exact yab_ hg _
  ·simp [Builtin.zeroCells] at hv
   obtain ⟨i, hi, rfl⟩ := hv
   have : i % 2 = 0 ∨ i % 2 = 1 := by omega
   rcases this with h | h <;> simp [h] <;> rfl
set_option maxHeartbeats 4000000 in
set_option maxRecDepth 100000 in
theorem Delete_T (g cap i j n : Nat) (cells : Array Value) (w : World) (hg : w.heap[g]? = some (.cells cells 30 (0, 0))) (hi : i < j) (hj : j ≤ n) (hn : n ≤ cap) (hcap : cap ≤ 9223372036854775807) (hsz : n * 2 ≤ cells.size) (h1 : ∀ t v, t < n * 2 → cells[t]? = some v → v.oneCell' = true) :
  Calls Try.prog 95 #[.slice (some ⟨g, 0, none⟩) n cap, .int .i64 (i : Int), .int .i64 (j : Int)] w fun e w' => e = .returned (.slice (some ⟨g, 0, none⟩) (i + (n - j)) cap) ∧ SB g w w' ∧ w'.heap.size = w.heap.size ∧
   ∃ cells', w'.heap[g]? = some (.cells cells' 30 (0, 0)) ∧ cells'.size = cells.size ∧ ∀ t, t < (i + (n - j)) * 2 → cells'[t]? = if t < i * 2 then cells[t]? else cells[t + (j - i) * 2]? := by
 have hgz := Az_.mk hg
 have h1z := Az_.mk h1
 clear hg h1
 have mixed : Try.prog.follows .mixedOrders = true := by kernel_rfl
 have hic : i ≤ cap := by omega
 have hjc : j ≤ cap := by omega
 have hne : ((i : Int) == (j : Int)) = false := beq_eq_false_iff_ne.2 (by omega)
 have hij : (i : Int) ≤ (j : Int) := by omega
 have hjn : (j : Int) ≤ (n : Int) := by omega
 obtain ⟨news, hnews⟩ : ∃ news, news = (cells.toList.drop (j * 2)).take ((n - j) * 2) := ⟨_, rfl⟩
 have hlen : news.length = (n - j) * 2 := by rw [hnews, List.length_take, List.length_drop, Array.length_toList]; omega
 have hget : ∀ t, t < (n - j) * 2 → news[t]? = cells[j * 2 + t]? := fun t ht => by rw [hnews, List.getElem?_take, if_pos ht, List.getElem?_drop, Array.getElem?_toList]
 obtain ⟨A, hA, hsrc⟩ : ∃ A : Addr, (if cap = j then (some (⟨g, 0, none⟩ : Addr)) else some ⟨g, j * 2, none⟩) = some A ∧ Az_ (∀ t u, news[t]? = some u → w.drew.cell? (A.add t) = some u) := by
  by_cases h : cap = j
  ·refine ⟨⟨g, 0, none⟩, by rw [if_pos h], ⟨fun t u hu => ?_⟩⟩
   have h0 : news.length = 0 := by rw [hlen]; omega
   rw [List.length_eq_zero_iff.1 h0] at hu
   simp at hu
  ·refine ⟨⟨g, j * 2, none⟩, by rw [if_neg h], ⟨fun t u hu => ?_⟩⟩
   have ht : t < (n - j) * 2 := by
    have := (List.getElem?_eq_some_iff.1 hu).1
    rwa [hlen] at this
   rw [hget t ht] at hu
   rw [Addr.add_lit, yaa_ (kD_ hgz.out)]
   exact hu
 have s1 : Az_ (news.length = (n - j) * 2) := ⟨hlen⟩
 have s2 : Az_ (∀ u ∈ news, u.oneCell' = true) := ⟨by
  intro u hu
  obtain ⟨t, ht⟩ := List.mem_iff_getElem?.1 hu
  have htl : t < (n - j) * 2 := by
   have := (List.getElem?_eq_some_iff.1 ht).1
   rwa [hlen] at this
  rw [hget t htl] at ht
  exact h1z.out _ u (by omega) ht⟩
 have s3 : Az_ (∀ t, t < news.length → (w.drew.cell? ⟨g, 0 + i * 2 + t, none⟩).isSome = true ∧ w.drew.frozen? ⟨g, 0 + i * 2 + t, none⟩ = false) := ⟨by
  intro t ht
  rw [hlen] at ht
  refine ⟨?_, yab_ (kD_ hgz.out) _⟩
  rw [yaa_ (kD_ hgz.out), Array.getElem?_eq_getElem (by omega)]
  rfl⟩
 obtain ⟨c1, hc1, hc2, hc3⟩ := blk_setCells news (0 + i * 2) w.drew cells (kD_ hgz.out) (by rw [hlen]; omega)
 obtain ⟨W1, hW1⟩ : ∃ W1, W1 = w.drew.setCells g (0 + i * 2) news := ⟨_, rfl⟩
 rw [← hW1] at hc1
 have hsb : SB g w W1 := by rw [hW1]; exact SB.setCells _ _ _ ⟨(Below.refl g w).drew, fun _ _ _ => rfl⟩
 have hsz1 : W1.heap.size = w.heap.size := by rw [hW1, setCells_size]; rfl
 obtain ⟨zs, hz1, hz2, hz3⟩ : ∃ zs : List Value, zs.length = (n - (i + (n - j))) * 2 ∧ (∀ v ∈ zs, v.oneCell' = true) ∧ ∀ ty, (Builtin.clear_ #[28] ty #[.slice (some ⟨g, (i + (n - j)) * 2, none⟩) (n - (i + (n - j))) (cap - (i + (n - j)))]).run Try.prog W1 = .ok (.tuple #[]) (W1.setCells g ((i + (n - j)) * 2) zs) := by
  obtain ⟨zs, h1, h2, h3⟩ := clear_T W1 g ((i + (n - j)) * 2) (n - (i + (n - j))) (cap - (i + (n - j))) c1 hc1 (by omega)
  exact ⟨zs, h1, h2, h3⟩
 obtain ⟨c2, hd1, hd2, hd3⟩ := blk_setCells zs ((i + (n - j)) * 2) W1 c1 hc1 (by rw [hz1]; omega)
 have hsb2 := SB.setCells zs ((i + (n - j)) * 2) W1 hsb
 have hsz2 : (W1.setCells g ((i + (n - j)) * 2) zs).heap.size = w.heap.size := by rw [setCells_size, hsz1]
 have hfin : ∀ t, t < (i + (n - j)) * 2 → c2[t]? = if t < i * 2 then cells[t]? else cells[t + (j - i) * 2]? := by
  intro t ht
  rw [hd3 t, if_neg (by omega), hc3 t, hlen]
  by_cases h : t < i * 2
  ·rw [if_neg (by omega), if_pos h]
  ·rw [if_pos (by omega), if_neg h, hget _ (by omega)]
   congr 1
   omega
 have FIN := Az_.mk (And.intro hsb2 (And.intro hsz2 (And.intro hd1 (And.intro (hd2.trans hc2) hfin))))
 have HW := Az_.mk hW1
 obtain ⟨i0, hi0, hj0, hj1, hj2⟩ := info_parts info30
 clear hget hnews hlen hc1 hc2 hc3 hsb hsz1 hz1 hz2 hd1 hd2 hd3 hsb2 hsz2 hfin hW1
 go_enter Try.func95, Try.ntmps95
 go_wp2_with fail
 go_region_law_o (refine step_append_room rfl (.tmp 22) (.tmp 25) 28 rfl 30 i0 2 Try.underlying28 hi0 hj1 g 0 i cap (by simp [Act.eval, Act.put]) A (n - j) (cap - j) news (by simp [Act.eval, Act.put]) s1.out hsrc.out s2.out (by omega) s3.out ?_; rw [← HW.out])
 go_wp2
 go_ret
 exact ⟨rfl, FIN.out.1, FIN.out.2.1, c2, FIN.out.2.2.1, FIN.out.2.2.2.1, FIN.out.2.2.2.2⟩
end
section
def ElAt (A : Option Addr) (k : Nat) (f : Int) (v : Value) (W : World) : Prop := ∃ ad, A = some ad ∧ W.cell? (ad.add (k * 2)) = some (.int .i64 f) ∧ W.cell? ⟨(ad.add (k * 2)).block, (ad.add (k * 2)).off + 1, none⟩ = some v
set_option maxHeartbeats 4000000 in
set_option maxRecDepth 100000 in
theorem IndexFunc_inv (n : Nat) (hn : n ≤ 9223372036854775807) (A : Option Addr) (c : Nat) (hc : n ≤ c) (g : Nat) (cb : Array Value) (Inv : Nat → World → Prop) (p : Nat → Bool) (w : World)
  (eg : ∀ args w1, (callFunc g args).run Try.prog w1 = .ok (.enter g args) w1)
  (hstep : ∀ j, j < n → ∀ W, Inv j W → ∃ f B m e, ElAt A j f (.slice B m e) W ∧ Calls Try.prog g (#[.agg #[.int .i64 f, .slice B m e]] ++ cb) W fun r w' => r = .returned (.bool (p j)) ∧ Inv (j + 1) w')
  (h0 : Inv 0 w) :
  Calls Try.prog 93 #[.slice A n c, .func (.func g) #[] cb] w fun r w' => (∃ k, k < n ∧ p k = true ∧ (∀ j, j < k → p j = false) ∧ r = .returned (.int .i64 (k : Int)) ∧ Inv (k + 1) w') ∨ ((∀ j, j < n → p j = false) ∧ r = .returned (.int .i64 (-1)) ∧ Inv n w') := by
 have hcz := Az_.mk hstep
 have h0z := Az_.mk h0
 clear hstep h0
 go_enter Try.func93, Try.ntmps93
 go_wp2
 go_loopw [8] (fun i wr => ∃ k : Nat, k ≤ n ∧ i = .int .i64 k ∧ Az_ (∀ j, j < k → p j = false) ∧ Az_ (Inv k wr)) (fun i wr => n - (intOf i).toNat)
 case atStart => exact ⟨0, Nat.zero_le _, rfl, ⟨fun j hj => absurd hj (Nat.not_lt_zero _)⟩, h0z⟩
 case round =>
  obtain ⟨k, hk, rfl, hp, hi⟩ := hrel
  by_cases hlt : k < n
  ·obtain ⟨fk, Bk, mk, ek, ⟨ad, rfl, hx0, hx1⟩, hcl⟩ := hcz.out k hlt wr hi.out
   replace hcl := Az_.mk hcl
   cases hpk : p k with
   | false =>
    rw [hpk] at hcl
    have hpz := Az_.mk hpk
    clear hpk
    go_wp2_with (go_at_fn g; refine hcl.out.mono ?_; rintro r w3 ⟨rfl, hi3⟩; have hi4 := Az_.mk hi3; clear hi3)
    go_roundw
    case rel => exact ⟨k + 1, by omega, by go_num, ⟨fun j hj => if h : j < k then hp.out j h else (show k = j by omega) ▸ hpz.out⟩, hi4⟩
    case measure => simp [intOf]; omega
   | true =>
    rw [hpk] at hcl
    have hpz := Az_.mk hpk
    clear hpk
    go_wp2_with (go_at_fn g; refine hcl.out.mono ?_; rintro r w3 ⟨rfl, hi3⟩; have hi4 := Az_.mk hi3; clear hi3)
    go_ret
    exact .inl ⟨k, hlt, hpz.out, hp.out, rfl, hi4.out⟩
  ·have hke : k = n := by omega
   subst hke
   go_wp2
   go_ret
   exact .inr ⟨hp.out, rfl, hi.out⟩
set_option maxHeartbeats 4000000 in
set_option maxRecDepth 100000 in
theorem ContainsFunc_inv (n : Nat) (hn : n ≤ 9223372036854775807) (A : Option Addr) (c : Nat) (hc : n ≤ c) (g : Nat) (cb : Array Value) (Inv : Nat → World → Prop) (p : Nat → Bool) (r : Bool) (w : World)
  (eg : ∀ args w1, (callFunc g args).run Try.prog w1 = .ok (.enter g args) w1)
  (hstep : ∀ j, j < n → ∀ W, Inv j W → ∃ f B m e, ElAt A j f (.slice B m e) W ∧ Calls Try.prog g (#[.agg #[.int .i64 f, .slice B m e]] ++ cb) W fun r w' => r = .returned (.bool (p j)) ∧ Inv (j + 1) w')
  (h0 : Inv 0 w) (hr : r = true ↔ ∃ j, j < n ∧ p j = true) :
  Calls Try.prog 96 #[.slice A n c, .func (.func g) #[] cb] w fun x w' => x = .returned (.bool r) ∧ ∃ j, j ≤ n ∧ Inv j w' := by
 have hI := Az_.mk (IndexFunc_inv n hn A c hc g cb Inv p w eg hstep h0)
 clear hstep h0
 cases r with
 | true =>
  obtain ⟨j, hj, hp⟩ := hr.1 rfl
  have hI2 := Az_.mk (hI.out.mono (fun x w' h => (h.elim id (fun h => absurd (h.1 j hj) (by rw [hp]; decide)) : ∃ k, k < n ∧ p k = true ∧ (∀ j, j < k → p j = false) ∧ x = .returned (.int .i64 (k : Int)) ∧ Inv (k + 1) w')))
  clear hr hp hj hI
  go_enter Try.func96, Try.ntmps96
  go_wp2_with (go_at_call 93; refine hI2.out.mono ?_; rintro x w2 ⟨k, hk, _, _, rfl, hi⟩; have hi2 := Az_.mk hi; have hd : decide (0 ≤ (k : Int)) = true := decide_eq_true (by omega); clear hi)
  go_ret
  exact ⟨rfl, k + 1, hk, hi2.out⟩
 | false =>
  have hno : ∀ k, k < n → p k = false := fun k hk => by
   cases h : p k with
   | false => rfl
   | true => exact absurd (hr.2 ⟨k, hk, h⟩) (by decide)
  have hI2 := Az_.mk (hI.out.mono (fun x w' h => (h.elim (fun ⟨k, hk, hp, _⟩ => absurd (hno k hk) (by rw [hp]; decide)) (fun h => ⟨h.2.1, h.2.2⟩) : x = .returned (.int .i64 (-1)) ∧ Inv n w')))
  clear hr hno hI
  go_enter Try.func96, Try.ntmps96
  go_wp2_with (go_at_call 93; refine hI2.out.mono ?_; rintro x w2 ⟨rfl, hi⟩; have hi2 := Az_.mk hi; clear hi)
  go_ret
  exact ⟨rfl, n, Nat.le_refl _, hi2.out⟩
end
section
def Elem (w0 : World) (x : S30) (v : Value) : Prop := ∃ A c, v = .slice A x.f1.length c ∧ x.f1.length ≤ c ∧ k30.C w0 A x.f1.length x.f1
def CellsAt (w0 : World) (cells : Array Value) (j : Nat) (x : S30) : Prop := ∃ v, Elem w0 x v ∧ cells[j * 2]? = some (.int .i64 x.f0) ∧ cells[j * 2 + 1]? = some v
def RowIs (w0 w : World) (g : Nat) (l : List S30) : Prop := ∃ cells, w.heap[g]? = some (.cells cells 30 (0, 0)) ∧ l.length * 2 ≤ cells.size ∧ ∀ j x, l[j]? = some x → CellsAt w0 cells j x
structure FarB (S : Nat → Prop) (w w' : World) : Prop where
 below : Below 0 w w'
 far : ∀ k, ¬ S k → k < w.heap.size → w'.heap[k]? = w.heap[k]?
section
variable {S : Nat → Prop} {w w1 w2 : World}
theorem FarB.refl (S : Nat → Prop) (w : World) : FarB S w w := ⟨Below.refl _ _, fun _ _ _ => rfl⟩
theorem FarB.trans (h : FarB S w w1) (k : FarB S w1 w2) : FarB S w w2 := ⟨h.below.trans k.below, fun i hi hl => (k.far i hi (Nat.lt_of_lt_of_le hl h.below.size)).trans (h.far i hi hl)⟩
theorem FarB.of_below (h : Below w.heap.size w w1) : FarB S w w1 := ⟨h.mono (Nat.zero_le _), fun k _ hk => h.block k hk⟩
theorem FarB.alloc (h : FarB S w w1) (o : Obj) : FarB S w (w1.alloc o) := h.trans (FarB.of_below (bA_ (Below.refl _ _) o))
theorem FarB.setCell (h : FarB S w w1) {g : Nat} (hg : S g) (o : Nat) (v : Value) : FarB S w (w1.setCell ⟨g, o, none⟩ v) :=
 h.trans ⟨(Below.refl 0 _).setCell (Nat.zero_le _) _, fun k hk _ => Below.heap_setCell _ _ _ k (fun e => hk (by have e' : k = g := e; rw [e']; exact hg))⟩
theorem FarB.of_SB {g : Nat} (h : SB g w w1) (hg : S g) : FarB S w w1 := ⟨h.below.mono (Nat.zero_le _), fun k hk hl => h.far k (fun e => hk (e ▸ hg)) hl⟩
theorem FarB.sub {T : Nat → Prop} (h : FarB S w w1) (hs : ∀ k, S k → T k) : FarB T w w1 := ⟨h.below, fun k hk hl => h.far k (fun e => hk (hs k e)) hl⟩
theorem FarB.toBelow {N : Nat} (h : FarB S w w1) (hN : N ≤ w.heap.size) (hs : ∀ k, S k → N ≤ k) : Below N w w1 :=
 ⟨h.below.os, h.below.tape, h.below.output, h.below.size, fun k hk => h.far k (fun e => by have := hs k e; omega) (by omega)⟩
theorem FarB.blk (h : FarB S w w1) {g : Nat} (hg : ¬ S g) {o : Obj} (hb : w.heap[g]? = some o) : w1.heap[g]? = some o := (h.far g hg (Array.getElem?_eq_some_iff.1 hb).1).trans hb
end
theorem RowIs.far {S : Nat → Prop} {w0 w w1 : World} {g : Nat} {l : List S30} (h : RowIs w0 w g l) (hf : FarB S w w1) (hg : ¬ S g) : RowIs w0 w1 g l := by
 obtain ⟨cells, h1, h2, h3⟩ := h
 exact ⟨cells, hf.blk hg h1, h2, h3⟩
theorem RowIs.lt {w0 w : World} {g : Nat} {l : List S30} (h : RowIs w0 w g l) : g < w.heap.size := by
 obtain ⟨cells, h1, _⟩ := h
 exact (Array.getElem?_eq_some_iff.1 h1).1
theorem RowIs.el {w0 w : World} {g : Nat} {l : List S30} (h : RowIs w0 w g l) (j : Nat) (hj : j < l.length) : ∃ B e, Elem w0 l[j] (.slice B l[j].f1.length e) ∧ ElAt (some ⟨g, 0, none⟩) j l[j].f0 (.slice B l[j].f1.length e) w := by
 obtain ⟨cells, h1, h2, h3⟩ := h
 obtain ⟨v, hv, c0, c1⟩ := h3 j l[j] (List.getElem?_eq_getElem hj)
 obtain ⟨B, e, rfl, hl, hC⟩ := hv
 refine ⟨B, e, ⟨B, e, rfl, hl, hC⟩, ⟨g, 0, none⟩, rfl, ?_, ?_⟩
 ·rw [add_plain, yaa_ h1]; exact c0
 ·rw [add_plain]
  show w.cell? ⟨g, j * 2 + 1, none⟩ = _
  rw [yaa_ h1]; exact c1
theorem cells_of {w : World} {ad : Addr} : ∀ {l : List S30}, k30.C w (some ad) l.length l → ∃ news : List Value, news.length = l.length * 2 ∧ (∀ j u, news[j]? = some u → w.cell? (ad.add j) = some u) ∧ (∀ u ∈ news, u.oneCell' = true) ∧ ∀ j x, l[j]? = some x → ∃ v, Elem w x v ∧ news[j * 2]? = some (.int .i64 x.f0) ∧ news[j * 2 + 1]? = some v := by
 intro l hC
 have key : ∀ n, n ≤ l.length → ∃ news : List Value, news.length = n * 2 ∧ (∀ j u, news[j]? = some u → w.cell? (ad.add j) = some u) ∧ (∀ u ∈ news, u.oneCell' = true) ∧ ∀ j x, j < n → l[j]? = some x → ∃ v, Elem w x v ∧ news[j * 2]? = some (.int .i64 x.f0) ∧ news[j * 2 + 1]? = some v := by
  intro n
  induction n with
  | zero => intro _; exact ⟨[], rfl, fun j u h => (by simp at h), fun u h => (by cases h), fun j x h => absurd h (Nat.not_lt_zero _)⟩
  | succ n ih =>
   intro hn
   obtain ⟨news, h1, h2, h3, h4⟩ := ih (by omega)
   obtain ⟨ad', A1, c1, e, hx0, hx1, hl1, hC1⟩ := at_T30 hC (n : Int) (by omega) (by omega)
   injection e with e
   subst e
   have hrd : rd_T30 l (n : Int) = l[n] := by unfold rd_T30; simp [List.getD, List.getElem?_eq_getElem (show n < l.length by omega)]
   rw [hrd] at hx0 hx1 hl1 hC1
   rw [Int.toNat_natCast] at hx0 hx1
   refine ⟨news ++ [.int .i64 l[n].f0, .slice A1 l[n].f1.length c1], by simp [h1]; omega, fun j u hj => ?_, fun u hu => ?_, fun j x hj hx => ?_⟩
   ·rcases Nat.lt_or_ge j (n * 2) with h | h
    ·rw [List.getElem?_append_left (by omega)] at hj
     exact h2 j u hj
    ·rw [List.getElem?_append_right (by omega), h1] at hj
     have : j - n * 2 = 0 ∨ j - n * 2 = 1 := by
      have := (List.getElem?_eq_some_iff.1 hj).1
      simp at this
      omega
     rcases this with h5 | h5
     ·rw [h5] at hj
      simp at hj
      subst hj
      rw [show j = n * 2 by omega]; exact hx0
     ·rw [h5] at hj
      simp at hj
      subst hj
      rw [show j = n * 2 + 1 by omega, add_field _ _ 1 (by omega)]; exact hx1
   ·rcases List.mem_append.1 hu with hu | hu
    ·exact h3 u hu
    ·simp at hu
     rcases hu with rfl | rfl <;> rfl
   ·rcases Nat.lt_or_ge j n with h | h
    ·obtain ⟨v, g1, g2, g3⟩ := h4 j x h hx
     exact ⟨v, g1, by rw [List.getElem?_append_left (by omega)]; exact g2, by rw [List.getElem?_append_left (by omega)]; exact g3⟩
    ·have : j = n := by omega
     subst this
     rw [List.getElem?_eq_getElem (by omega)] at hx
     injection hx with hx
     subst hx
     refine ⟨_, ⟨A1, c1, rfl, hl1, hC1⟩, ?_, ?_⟩
     ·rw [List.getElem?_append_right (by omega), h1, Nat.sub_self]; rfl
     ·rw [List.getElem?_append_right (by omega), h1, show j * 2 + 1 - j * 2 = 1 by omega]; rfl
 obtain ⟨news, h1, h2, h3, h4⟩ := key l.length (Nat.le_refl _)
 exact ⟨news, h1, h2, h3, fun j x hx => h4 j x (List.getElem?_eq_some_iff.1 hx).1 hx⟩
def Own (w0 w : World) (N : Nat) (A : Option Addr) (c : Nat) (l : List S30) : Prop := l.length ≤ c ∧ c ≤ 9223372036854775807 ∧ (l ≠ [] → ∃ g, A = some ⟨g, 0, none⟩ ∧ N ≤ g ∧ RowIs w0 w g l)
set_option maxHeartbeats 4000000 in
set_option maxRecDepth 100000 in
theorem Clone_T (w0 : World) (A : Option Addr) (c : Nat) (l : List S30) (w : World) (hb0 : Below w0.heap.size w0 w) (hC : k30.C w0 A l.length l) (hc : l.length ≤ c) (hl : l.length * 32 ≤ 140737488355328) :
  Calls Try.prog 90 #[.slice A l.length c] w fun e w' => ∃ A' c', e = .returned (.slice A' l.length c') ∧ Own w0 w' w.heap.size A' c' l ∧ Below w.heap.size w w' := by
 have hnil := fun (W : World) => Lib.run_eql_slice_nil (P := Try.prog) W 28 30 A l.length c 0 0 Try.underlying28
 cases A with
 | none =>
  have h0 : l = [] := by
   rcases Nat.eq_zero_or_pos l.length with h | h
   ·exact List.eq_nil_of_length_eq_zero h
   ·obtain ⟨ad, e, _⟩ := hC.2.2 h
    cases e
  subst h0
  have hn0 := fun (W : World) => Lib.run_eql_slice_nil (P := Try.prog) W 28 30 none 0 c 0 0 Try.underlying28
  clear hnil
  go_enter Try.func90, Try.ntmps90
  go_wp2
  go_ret
  exact ⟨none, 0, rfl, ⟨Nat.le_refl _, by decide, fun h => absurd rfl h⟩, Below.refl _ _⟩
 | some ad =>
  obtain ⟨news, n1, n2, n3, n4⟩ := cells_of hC
  have N1 := Az_.mk n1
  have hba := bA_ (Below.refl w.heap.size w) (.cells #[] 30)
  have N2 : Az_ (∀ j u, news[j]? = some u → (w.alloc (.cells #[] 30)).cell? (ad.add j) = some u) := ⟨fun j u h => yaf_ hba (yaf_ hb0 (n2 j u h))⟩
  have N3 := Az_.mk n3
  have N4 := Az_.mk n4
  have HO := Az_.mk (World.ownsRow_lit (base := w.heap.size) (e := 30) (size := 2) w #[] 0 (Nat.le_refl _) (by simp [maxLen]) (by simp))
  have HB := Az_.mk hba
  have HL := Az_.mk hl
  obtain ⟨i0, hi0, hj0, hj1, hj2⟩ := info_parts info30
  clear hl hC n1 n2 n3 n4 hba hb0
  go_enter Try.func90, Try.ntmps90
  go_wp2_with (at_builtin; refine wpList_append_own_at _ rfl (.tmp 5) (.tmp 6) 28 rfl w.heap.size 30 i0 (.agg #[.int .i64 0, .slice none 0 0]) 2 32 Try.underlying28 hi0 hj0 hj1 hj2 rfl (by omega) _ 0 [] rfl HO.out ad l.length c news rfl N1.out N2.out N3.out (by have := HL.out; simp only [maxLen]; omega) (by have := HL.out; omega) HB.out.size ?_; intro v1 w1 ho hg _ hat; have HO1 := Az_.mk ho; have HG1 := Az_.mk hg; clear ho hg hat)
  go_ret
  have hB1 : Below w.heap.size w w1 := HB.out.grown HG1.out HB.out.size (fun k hk => Nat.le_of_eq (Option.some.inj (show some w.heap.size = some k from hk)))
  obtain ⟨hlen, hown⟩ := HO1.out
  rcases hown with ⟨hv, h0⟩ | ⟨g, cap, cur, rfl, hb, hh, hn, hm, hsz, htake⟩
  ·subst hv
   have h0' : l = [] := List.eq_nil_of_length_eq_zero (by omega)
   subst h0'
   exact ⟨none, 0, rfl, ⟨Nat.le_refl _, by decide, fun h => absurd rfl h⟩, hB1⟩
  ·rw [Nat.zero_add] at hn htake ⊢
   rw [List.nil_append] at htake
   refine ⟨_, cap, rfl, ⟨hn, hm, fun _ => ⟨g, rfl, hb, cur, hh, by omega, fun j x hj => ?_⟩⟩, hB1⟩
   have hjl := (List.getElem?_eq_some_iff.1 hj).1
   obtain ⟨v, g1, g2, g3⟩ := N4.out j x hj
   rw [← htake, List.getElem?_take, if_pos (by omega), Array.getElem?_toList] at g2
   rw [← htake, List.getElem?_take, if_pos (by omega), Array.getElem?_toList] at g3
   exact ⟨v, g1, g2, g3⟩
end
section
def keptF (p : Nat → Bool) : Nat → List S30 → List S30
 | _, [] => []
 | j, x :: r => if p j = true then keptF p (j + 1) r else x :: keptF p (j + 1) r
theorem keptF_app (p : Nat → Bool) (x : S30) : ∀ (l : List S30) (j : Nat), keptF p j (l ++ [x]) = keptF p j l ++ (if p (j + l.length) = true then [] else [x])
 | [], j => by simp [keptF]
 | y :: l, j => by
  rw [List.cons_append, keptF, keptF, keptF_app p x l (j + 1), List.length_cons, show j + 1 + l.length = j + (l.length + 1) by omega]
  split <;> simp
theorem keptF_take (p : Nat → Bool) (l : List S30) (j : Nat) (h : j < l.length) : keptF p 0 (l.take (j + 1)) = keptF p 0 (l.take j) ++ (if p j = true then [] else [l[j]]) := by
 rw [List.take_succ_eq_append_getElem h, keptF_app, List.length_take, show 0 + min j l.length = j by omega]
theorem keptF_le (p : Nat → Bool) : ∀ (l : List S30) (j : Nat), (keptF p j l).length ≤ l.length
 | [], _ => Nat.le_refl _
 | x :: l, j => by
  have := keptF_le p l (j + 1)
  rw [keptF]
  split <;> simp only [List.length_cons] <;> omega
theorem keptF_all (p : Nat → Bool) : ∀ (l : List S30) (j : Nat), (∀ k, k < l.length → p (j + k) = false) → keptF p j l = l
 | [], _, _ => rfl
 | x :: l, j, h => by
  rw [keptF, if_neg (by rw [show p j = false from h 0 (by simp)]; decide), keptF_all p l (j + 1) (fun k hk => by have := h (k + 1) (by simp; omega); rwa [show j + 1 + k = j + (k + 1) by omega])]
def Mid (w0 w : World) (g : Nat) (l K : List S30) (j : Nat) : Prop := ∃ cells, w.heap[g]? = some (.cells cells 30 (0, 0)) ∧ l.length * 2 ≤ cells.size ∧ (∀ t x, K[t]? = some x → CellsAt w0 cells t x) ∧ ∀ t x, j ≤ t → l[t]? = some x → CellsAt w0 cells t x
theorem Mid.far {S : Nat → Prop} {w0 w w1 : World} {g j : Nat} {l K : List S30} (h : Mid w0 w g l K j) (hf : FarB S w w1) (hg : ¬ S g) : Mid w0 w1 g l K j := by
 obtain ⟨cells, h1, h2, h3, h4⟩ := h
 exact ⟨cells, hf.blk hg h1, h2, h3, h4⟩
theorem Mid.put {w0 w : World} {g j : Nat} {l K : List S30} (h : Mid w0 w g l K j) (hK : K.length < j) (hj : j ≤ l.length) {x : S30} {v : Value} (hv : Elem w0 x v) : Mid w0 ((w.setCell ⟨g, K.length * 2, none⟩ (.int .i64 x.f0)).setCell ⟨g, K.length * 2 + 1, none⟩ v) g l (K ++ [x]) j := by
 obtain ⟨cells, h1, h2, h3, h4⟩ := h
 have key : ∀ o, o ≠ K.length * 2 → o ≠ K.length * 2 + 1 → ((cells.setIfInBounds (K.length * 2) (.int .i64 x.f0)).setIfInBounds (K.length * 2 + 1) v)[o]? = cells[o]? := fun o h5 h6 => by
  rw [Array.getElem?_setIfInBounds, if_neg (fun e => h6 e.symm), Array.getElem?_setIfInBounds, if_neg (fun e => h5 e.symm)]
 have old : ∀ t y, t ≠ K.length → CellsAt w0 cells t y → CellsAt w0 ((cells.setIfInBounds (K.length * 2) (.int .i64 x.f0)).setIfInBounds (K.length * 2 + 1) v) t y := fun t y ht ⟨u, g1, g2, g3⟩ =>
  ⟨u, g1, by rw [key _ (by omega) (by omega)]; exact g2, by rw [key _ (by omega) (by omega)]; exact g3⟩
 refine ⟨_, blk_set (blk_set h1 _ _) _ _, by rw [Array.size_setIfInBounds, Array.size_setIfInBounds]; exact h2, fun t y ht => ?_, fun t y h5 ht => old t y (by omega) (h4 t y h5 ht)⟩
 rcases Nat.lt_or_ge t K.length with h5 | h5
 ·rw [List.getElem?_append_left h5] at ht
  exact old t y (by omega) (h3 t y ht)
 ·rw [List.getElem?_append_right h5] at ht
  have h6 : t = K.length := by
   have := (List.getElem?_eq_some_iff.1 ht).1
   simp at this
   omega
  subst h6
  simp at ht
  subst ht
  refine ⟨v, hv, ?_, ?_⟩
  ·rw [Array.getElem?_setIfInBounds, if_neg (by omega), Array.getElem?_setIfInBounds, if_pos rfl, if_pos (by omega)]
  ·rw [Array.getElem?_setIfInBounds, if_pos rfl, Array.size_setIfInBounds, if_pos (by omega)]
set_option maxHeartbeats 8000000 in
set_option maxRecDepth 100000 in
theorem DeleteFunc_inv (l : List S30) (w0 : World) (g cap fn : Nat) (cb : Array Value) (S : Nat → Prop) (Inv : Nat → World → Prop) (p : Nat → Bool) (w : World) (hl : l.length ≤ cap) (hcap : cap ≤ 9223372036854775807)
  (eg : ∀ args w1, (callFunc fn args).run Try.prog w1 = .ok (.enter fn args) w1) (hSg : ¬ S g) (hSold : ∀ k, S k → k < w.heap.size) (hrow : RowIs w0 w g l) (h0 : Inv 0 w)
  (hstep : ∀ j (hj : j < l.length) W B e, Inv j W → w.heap.size ≤ W.heap.size → Elem w0 l[j] (.slice B l[j].f1.length e) → Calls Try.prog fn (#[.agg #[.int .i64 l[j].f0, .slice B l[j].f1.length e]] ++ cb) W fun r w' => r = .returned (.bool (p j)) ∧ Inv (j + 1) w' ∧ FarB S W w')
  (hstab : ∀ j W W', Inv j W → FarB (fun k => k = g ∨ w.heap.size ≤ k) W W' → Inv j W') :
  Calls Try.prog 91 #[.slice (some ⟨g, 0, none⟩) l.length cap, .func (.func fn) #[] cb] w fun r w' => r = .returned (.slice (some ⟨g, 0, none⟩) (keptF p 0 l).length cap) ∧ RowIs w0 w' g (keptF p 0 l) ∧ Inv l.length w' ∧ FarB (fun k => S k ∨ k = g) w w' := by
 have hmax : l.length ≤ 9223372036854775807 := by omega
 have hIF := IndexFunc_inv l.length hmax (some ⟨g, 0, none⟩) cap hl fn cb (fun j W => Inv j W ∧ FarB S w W) p w eg (fun j hj W hi => by
  obtain ⟨B, e, he, hat⟩ := (hrow.far hi.2 hSg).el j hj
  exact ⟨l[j].f0, B, l[j].f1.length, e, hat, (hstep j hj W B e hi.1 hi.2.below.size he).mono (fun r w' h => ⟨h.1, h.2.1, hi.2.trans h.2.2⟩)⟩) ⟨h0, FarB.refl _ _⟩
 by_cases hall : ∀ j, j < l.length → p j = false
 ·have hIF2 := Az_.mk (hIF.mono (fun r w' h => (h.elim (fun ⟨k, hk, hp, _⟩ => absurd (hall k hk) (by rw [hp]; decide)) (fun h => h.2) : r = .returned (.int .i64 (-1)) ∧ Inv l.length w' ∧ FarB S w w')))
  have hk : keptF p 0 l = l := keptF_all p l 0 (fun k hk => by rw [Nat.zero_add]; exact hall k hk)
  have HR := Az_.mk hrow
  rw [hk]
  clear hIF hall hk hstep hstab h0 hrow
  go_enter Try.func91, Try.ntmps91
  go_wp2_with (go_at_call 93; refine hIF2.out.mono ?_; rintro r w2 ⟨rfl, hi⟩; have HI := Az_.mk hi; clear hi)
  go_ret
  exact ⟨rfl, HR.out.far HI.out.2 hSg, HI.out.1, HI.out.2.sub (fun k h => .inl h)⟩
 ·obtain ⟨k0, hk0, hpk0, hpre⟩ : ∃ k, k < l.length ∧ p k = true ∧ ∀ j, j < k → p j = false := by
   have : ∀ n, (∃ k, k < n ∧ p k = true ∧ ∀ j, j < k → p j = false) ∨ ∀ j, j < n → p j = false := by
    intro n
    induction n with
    | zero => exact .inr (fun j hj => absurd hj (Nat.not_lt_zero _))
    | succ n ih =>
     rcases ih with ⟨k, h1, h2⟩ | h
     ·exact .inl ⟨k, by omega, h2⟩
     ·cases hn : p n with
      | true => exact .inl ⟨n, by omega, hn, h⟩
      | false => exact .inr (fun j hj => by rcases Nat.lt_or_ge j n with h3 | h3; exact h j h3; exact (show j = n by omega) ▸ hn)
   exact (this l.length).resolve_right hall
  have hIF2 := Az_.mk (hIF.mono (fun r w' h => (h.elim (fun ⟨k, hk, hp, hpr, h1, h2⟩ => by
   have : k = k0 := by
    rcases Nat.lt_trichotomy k k0 with h | h | h
    ·exact absurd (hpre k h) (by rw [hp]; decide)
    ·exact h
    ·exact absurd (hpr k0 h) (by rw [hpk0]; decide)
   subst this
   exact ⟨h1, h2⟩) (fun h => absurd (h.1 k0 hk0) (by rw [hpk0]; decide)) : r = .returned (.int .i64 (k0 : Int)) ∧ Inv (k0 + 1) w' ∧ FarB S w w')))
  have hK0 : keptF p 0 (l.take (k0 + 1)) = l.take k0 := by
   rw [keptF_take p l k0 hk0, if_pos hpk0, List.append_nil]
   refine keptF_all p _ 0 (fun k hk => ?_)
   rw [List.length_take] at hk
   rw [Nat.zero_add]
   exact hpre k (by omega)
  have HK0 := Az_.mk hK0
  have HR := Az_.mk hrow
  have HST := Az_.mk hstep
  have HSB := Az_.mk hstab
  have HSO := Az_.mk hSold
  have hne1 : ((k0 : Int) == -1) = false := beq_eq_false_iff_ne.2 (by omega)
  clear hIF hall hpre hpk0 hK0 hrow hstep hstab h0 hSold
  go_enter Try.func91, Try.ntmps91
  go_wp2_with (go_at_call 93; refine hIF2.out.mono ?_; rintro r w2 ⟨rfl, hi⟩; have HI := Az_.mk hi; clear hi)
  go_loopw [5, 6] (fun i j wr => ∃ (k n : Nat), i = .int .i64 n ∧ j = .int .i64 k ∧ k ≤ l.length ∧ n < k ∧ Az_ (n = (keptF p 0 (l.take k)).length) ∧ Az_ (Mid w0 wr g l (keptF p 0 (l.take k)) k) ∧ Az_ (Inv k wr ∧ FarB (fun k => S k ∨ k = g) w wr)) (fun i j wr => l.length - (intOf j).toNat)
  case atStart =>
   refine ⟨k0 + 1, k0, rfl, by go_num, by omega, by omega, ⟨by rw [HK0.out, List.length_take]; omega⟩, ⟨?_⟩, ⟨HI.out.1, HI.out.2.sub (fun k h => .inl h)⟩⟩
   obtain ⟨cells, h1, h2, h3⟩ := HR.out.far HI.out.2 hSg
   rw [HK0.out]
   refine ⟨cells, h1, h2, fun t x ht => h3 t x ?_, fun t x _ ht => h3 t x ht⟩
   rw [List.getElem?_take] at ht
   split at ht
   ·exact ht
   ·cases ht
  case round =>
   obtain ⟨k, n, rfl, rfl, hk, hnk, HN, HM, HV⟩ := hrel
   by_cases hlt : k < l.length
   ·obtain ⟨cells, h1, h2, h3, h4⟩ := HM.out
    obtain ⟨v, ⟨B, e, rfl, hBe, hBC⟩, c0, c1⟩ := h4 k l[k] (Nat.le_refl _) (List.getElem?_eq_getElem hlt)
    have HE := Az_.mk (show Elem w0 l[k] (.slice B l[k].f1.length e) from ⟨B, e, rfl, hBe, hBC⟩)
    have x0 : wr.cell? ⟨g, k * 2, none⟩ = some (.int .i64 l[k].f0) := (yaa_ h1 _).trans c0
    have x1 : wr.cell? ⟨g, k * 2 + 1, none⟩ = some (.slice B l[k].f1.length e) := (yaa_ h1 _).trans c1
    have hws : w.heap.size ≤ wr.heap.size := HV.out.2.below.size
    have hgl := HR.out.lt
    have hfa : FarB (fun k => k = g ∨ w.heap.size ≤ k) wr (wr.alloc (.cells #[.int .i64 l[k].f0, .slice B l[k].f1.length e] 30)) := (FarB.refl _ _).alloc _
    have hcl := Az_.mk (HST.out k hlt _ B e (HSB.out k _ _ HV.out.1 hfa) (by simp; omega) HE.out)
    have hbox := Az_.mk (heap_alloc_new wr (.cells #[.int .i64 l[k].f0, .slice B l[k].f1.length e] 30))
    have HW := Az_.mk hws
    have HGL := Az_.mk hgl
    have HTK := Az_.mk (keptF_take p l k hlt)
    generalize hf : l[k].f0 = fk at x0 hcl hbox
    generalize hm : l[k].f1.length = mk at x1 hcl hbox
    have HF := Az_.mk hf
    have HMk := Az_.mk hm
    clear h1 h2 h3 h4 c0 c1 hBe hBC hfa hws hgl hf hm
    cases hpk : p k with
    | true =>
     rw [hpk] at hcl
     have HP := Az_.mk hpk
     clear hpk
     go_wp2_with (go_at_fn fn; refine hcl.out.mono ?_; rintro r w3 ⟨rfl, hi3, hf3⟩; have HI3 := Az_.mk hi3; have HF3 := Az_.mk hf3; clear hi3 hf3)
     go_roundw
     case rel =>
      have htk : keptF p 0 (l.take (k + 1)) = keptF p 0 (l.take k) := by rw [HTK.out, if_pos HP.out, List.append_nil]
      refine ⟨k + 1, n, rfl, by go_num, by omega, by omega, ⟨by rw [htk]; exact HN.out⟩, ⟨?_⟩, ⟨HI3.out, (HV.out.2.alloc _).trans (HF3.out.sub (fun k h => .inl h))⟩⟩
      rw [htk]
      obtain ⟨cells, h1, h2, h3, h4⟩ := (HM.out.far ((FarB.refl S wr).alloc (.cells #[.int .i64 fk, .slice B mk e] 30)) hSg).far HF3.out hSg
      exact ⟨cells, h1, h2, h3, fun t x ht hx => h4 t x (by omega) hx⟩
     case measure => simp [intOf]; omega
    | false =>
     rw [hpk] at hcl
     have HP := Az_.mk hpk
     clear hpk
     go_wp2_with (go_at_fn fn; refine hcl.out.mono ?_; rintro r w3 ⟨rfl, hi3, hf3⟩; have HI3 := Az_.mk hi3; have HF3 := Az_.mk hf3; have hb3 := hf3.blk (fun h => by have := HSO.out _ h; have := HW.out; omega) hbox.out; have y0 : w3.cell? ⟨wr.heap.size, 0, none⟩ = some (.int .i64 fk) := (yaa_ hb3 0).trans rfl; have y1 : w3.cell? ⟨wr.heap.size, 1, none⟩ = some (.slice B mk e) := (yaa_ hb3 1).trans rfl; have M3 := Az_.mk ((HM.out.far ((FarB.refl S wr).alloc (.cells #[.int .i64 fk, .slice B mk e] 30)) hSg).far hf3 hSg); obtain ⟨cells3, m1, m2, m3, m4⟩ := M3.out; obtain ⟨d0, hd0⟩ : ∃ d, cells3[n * 2]? = some d := ⟨_, Array.getElem?_eq_getElem (by omega)⟩; obtain ⟨d1, hd1⟩ : ∃ d, cells3[n * 2 + 1]? = some d := ⟨_, Array.getElem?_eq_getElem (by omega)⟩; have r0 : w3.cell? ⟨g, n * 2, none⟩ = some d0 := (yaa_ m1 _).trans hd0; have r1 : (w3.setCell ⟨g, n * 2, none⟩ (.int .i64 fk)).cell? ⟨g, n * 2 + 1, none⟩ = some d1 := (yaa_ (blk_set m1 _ _) _).trans (by rw [Array.getElem?_setIfInBounds, if_neg (by omega)]; exact hd1); have r1' : w3.cell? ⟨g, n * 2 + 1, none⟩ = some d1 := (yaa_ m1 _).trans hd1; have z0 := yab_ m1 (n * 2); have z1 := yab_ (blk_set m1 (n * 2) (.int .i64 fk)) (n * 2 + 1); have z1' := yab_ m1 (n * 2 + 1); clear hi3 hf3 hb3 m1 m2 m3 m4 hd0 hd1)
     go_roundw
     case rel =>
      have htk : keptF p 0 (l.take (k + 1)) = keptF p 0 (l.take k) ++ [l[k]] := by rw [HTK.out, if_neg (by rw [HP.out]; decide)]
      have hnl : n + 1 = (keptF p 0 (l.take (k + 1))).length := by rw [htk, List.length_append, ← HN.out]; rfl
      refine ⟨k + 1, n + 1, by go_num, by go_num, by omega, by omega, ⟨hnl⟩, ⟨?_⟩, ⟨?_, ?_⟩⟩
      ·have hp := M3.out.put (by rw [← HN.out]; exact hnk) hk HE.out
       rw [← HN.out, HF.out, HMk.out] at hp
       rw [htk]
       obtain ⟨cells, h1, h2, h3, h4⟩ := hp
       exact ⟨cells, h1, h2, h3, fun t x ht hx => h4 t x (by omega) hx⟩
      ·exact HSB.out _ _ _ HI3.out (((FarB.refl _ _).setCell (.inl rfl) _ _).setCell (.inl rfl) _ _)
      ·exact (((HV.out.2.alloc _).trans (HF3.out.sub (fun k h => .inl h))).setCell (.inr rfl) _ _).setCell (.inr rfl) _ _
     case measure => simp [intOf]; omega
   ·have hke : k = l.length := by omega
    subst hke
    obtain ⟨cells, h1, h2, h3, h4⟩ := HM.out
    rw [List.take_length] at h3
    have hn' : n = (keptF p 0 l).length := by rw [HN.out, List.take_length]
    obtain ⟨zs, hz1, hz2, hz3⟩ := clear_T wr g (n * 2) (l.length - n) (cap - n) cells h1 (by omega)
    obtain ⟨c2, hd1, hd2, hd3⟩ := blk_setCells zs (n * 2) wr cells h1 (by rw [hz1]; omega)
    have hfar : FarB (fun k => k = g ∨ w.heap.size ≤ k) wr (wr.setCells g (n * 2) zs) := FarB.of_SB (SB.setCells zs (n * 2) wr (SB.refl g wr)) (.inl rfl)
    have hfar2 : FarB (fun k => S k ∨ k = g) w (wr.setCells g (n * 2) zs) := HV.out.2.trans (FarB.of_SB (SB.setCells zs (n * 2) wr (SB.refl g wr)) (.inr rfl))
    have hrow' : RowIs w0 (wr.setCells g (n * 2) zs) g (keptF p 0 l) := by
     refine ⟨c2, hd1, by rw [hd2]; have := keptF_le p l 0; omega, fun t x ht => ?_⟩
     obtain ⟨u, g1, g2, g3⟩ := h3 t x ht
     have htl := (List.getElem?_eq_some_iff.1 ht).1
     exact ⟨u, g1, by rw [hd3, if_neg (by omega)]; exact g2, by rw [hd3, if_neg (by omega)]; exact g3⟩
    have FIN := Az_.mk (And.intro hrow' (And.intro (HSB.out _ _ _ HV.out.1 hfar) hfar2))
    have hnc : n ≤ cap := by omega
    have HNN := Az_.mk hn'
    clear h1 h2 h3 h4 hz1 hz2 hd1 hd2 hd3 hfar hfar2 hrow' hn'
    go_wp2
    go_ret
    rw [← HNN.out]
    exact ⟨rfl, FIN.out⟩
end
section
open Go.RowKit Go.Shelf Go.Proofs.YtpfddihcikiofaaW.PrintWords Go.Proofs.YtpfddihcikiofaaW.PrintLast Go.Proofs.YtpfddihcikiofaaW.PrintMore
attribute [local go_sem] Oper.semAt_some
structure Keeps (W W' : World) (S : Nat → Prop) : Prop where
 os : W'.os = W.os
 tape : W'.tape = W.tape
 output : W'.output = W.output
 size : W.heap.size ≤ W'.heap.size
 block : ∀ k, k < W.heap.size → ¬ S k → W'.heap[k]? = W.heap[k]?
theorem Keeps.of_below {W W' : World} (h : Below W.heap.size W W') (S : Nat → Prop) : Keeps W W' S := ⟨h.os, h.tape, h.output, h.size, fun k hk _ => h.block k hk⟩
theorem Keeps.trans {W W' W2 : World} {S S' : Nat → Prop} (h : Keeps W W' S) (k : Keeps W' W2 S') (hs : ∀ b, S' b → S b ∨ W.heap.size ≤ b) : Keeps W W2 S :=
 ⟨k.os.trans h.os, k.tape.trans h.tape, k.output.trans h.output, Nat.le_trans h.size k.size, fun b hb hn => (k.block b (Nat.lt_of_lt_of_le hb h.size) (fun h2 => (hs b h2).elim hn (by omega))).trans (h.block b hb hn)⟩
theorem Keeps.below {W W' W2 : World} {S : Nat → Prop} (h : Keeps W W' S) (k : Below W'.heap.size W' W2) : Keeps W W2 S := h.trans (Keeps.of_below k (fun _ => False)) (fun _ h => h.elim)
theorem Keeps.toBelow {W W' : World} {S : Nat → Prop} {B : Nat} (h : Keeps W W' S) (hB : B ≤ W.heap.size) (hs : ∀ b, S b → B ≤ b) : Below B W W' :=
 ⟨h.os, h.tape, h.output, h.size, fun k hk => h.block k (by omega) (fun h2 => by have := hs k h2; omega)⟩
theorem Keeps.blk {W W' : World} {S : Nat → Prop} (h : Keeps W W' S) {b : Nat} {o : Obj} (hb : W.heap[b]? = some o) (hn : ¬ S b) : W'.heap[b]? = some o := (h.block b (blk_lt hb) hn).trans hb
theorem Keeps.F {α : Type} {d : Kd α} {W W' : World} {S S' : Nat → Prop} {A : Option Addr} {n : Nat} {xs : List α} (h : Keeps W W' S) (hs : ∀ b, S' b → S b ∨ W.heap.size ≤ b) (hf : Kd.F d W (fun k => ¬ S k) A n xs) : Kd.F d W' (fun k => ¬ S' k) A n xs :=
 Kd.F_mono (Kd.F_step (Kd.F_bound hf) (fun k hk hlt => h.block k hlt hk.1)) (fun k hk h2 => (hs k h2).elim hk.1 (fun h3 => by have := hk.2; omega))
theorem wide_any (k : Nat) : Fence.wide.depth.isSome = true → 1 ≤ k := fun h => by cases h
theorem parts_neg (f : Int) (v : Value) (w : World) (hf : decide (f < 0) = true) : Calls Try.prog 74 #[.agg #[.int .i64 f, v]] w fun e w' => e = .returned (.slice none 0 0) ∧ w' = w.alloc (.cells #[.int .i64 f, v] 30) := by
 go_enter Try.func74, Try.ntmps74
 go_wp2
 go_ret
 exact ⟨rfl, rfl⟩
theorem parts_pos (f : Int) (A : Option Addr) (n c : Nat) (w : World) (hf : decide (f < 0) = false) : Calls Try.prog 74 #[.agg #[.int .i64 f, .slice A n c]] w fun e w' => e = .returned (.slice A n c) ∧ w' = w.alloc (.cells #[.int .i64 f, .slice A n c] 30) := by
 go_enter Try.func74, Try.ntmps74
 go_wp2
 go_ret
 exact ⟨rfl, rfl⟩
theorem clip_any (A : Option Addr) (n c : Nat) (w : World) (h : n ≤ c) (hn : n ≤ 9223372036854775807) : Calls Try.prog 109 #[.slice A n c] w fun e w' => e = .returned (.slice A n n) ∧ w' = w := by
 go_enter Try.func109, Try.ntmps109
 go_wp2
 go_ret
 exact ⟨rfl, rfl⟩
def Yields (l : Nat) (J : (Nat → Prop) → List (List Int × S30) → World → Prop) (N : Nat) : Prop :=
 ∀ (m : Nat) (S : Nat → Prop) (pre : List (List Int × S30)) (p : List Int) (s : S30) (A : Option Addr) (c : Nat) (As : Option Addr) (cs : Nat) (W : World), J S pre W → pre.length < N → p.length ≤ 1099511627776 →
  Kd.F (Kd.int .i64) W (fun k => ¬ S k) A p.length p → p.length ≤ c → Kd.F k30 W (fun k => ¬ S k) As s.f1.length s.f1 → s.f1.length ≤ cs →
  YieldAt Fence.wide m Try.prog l #[.slice A p.length c, .agg #[.int .i64 s.f0, .slice As s.f1.length cs]] W fun e W' => e = .returned (.bool true) ∧ ∃ S' : Nat → Prop, J S' (pre ++ [(p, s)]) W' ∧ Keeps W W' S ∧ ∀ k, S' k → S k ∨ W.heap.size ≤ k
def WalkPost (J : (Nat → Prop) → List (List Int × S30) → World → Prop) (S : Nat → Prop) (pre : List (List Int × S30)) (W : World) (e : Ending) (W' : World) : Prop :=
 e = .returned (.bool true) ∧ ∃ S' : Nat → Prop, J S' pre W' ∧ Keeps W W' S ∧ ∀ k, S' k → S k ∨ W.heap.size ≤ k
set_option maxRecDepth 100000 in
set_option maxHeartbeats 4000000 in
theorem walkIn_ (l N : Nat) (J : (Nat → Prop) → List (List Int × S30) → World → Prop) (hJb : ∀ S pre W, J S pre W → ∀ k, S k → k < W.heap.size)
  (hJs : ∀ S pre W W', J S pre W → Below W.heap.size W W' → J S pre W') (hY : Yields l J N) (t : S30) :
  ∀ (n : Nat) (S : Nat → Prop) (p : List Int) (A : Option Addr) (c : Nat) (As : Option Addr) (cs : Nat) (pre : List (List Int × S30)) (W : World), J S pre W →
   Kd.F (Kd.int .i64) W (fun k => ¬ S k) A p.length p → p.length ≤ c → Kd.F k30 W (fun k => ¬ S k) As t.f1.length t.f1 → t.f1.length ≤ cs → pre.length + (flatP p t).length ≤ N → p.length + (flatP p t).length ≤ 1099511627776 →
   CallsIn Fence.wide n Try.prog 104 #[.slice A p.length c, .agg #[.int .i64 t.f0, .slice As t.f1.length cs], .func (.yield l) #[] #[]] W (WalkPost J S (pre ++ flatP p t) W) := by
 induction t using S30.ind with
 | h f kids ih =>
 intro n S p A c As cs pre W hJ hp hpc ht htc hN hM
 dsimp only at ht htc ⊢
 have hbox : (W.alloc (.cells #[.int .i64 f, .slice As kids.length cs] 30)).heap[W.heap.size]? = some (.cells #[.int .i64 f, .slice As kids.length cs] 30 (0, 0)) := heap_alloc_new W _
 have hb1 : Below W.heap.size W (W.alloc (.cells #[.int .i64 f, .slice As kids.length cs] 30)) := bA_ (Below.refl _ _) _
 obtain ⟨fn, tmps, assign, body, hy, hR⟩ := hY (n - 1) S pre p ⟨f, kids⟩ A c As cs _ (hJs _ _ _ _ hJ hb1) (by simp [flatP] at hN; omega) (by omega) (Kd.F_below hp hb1) hpc (Kd.F_below ht hb1) htc
 dsimp only at hy
 refine callsIn_of_wp Try.func104 rfl trivial ?_ rfl
 simp only [Try.ntmps104, List.size_toArray, List.length_cons, List.length_nil, Nat.reduceAdd, Nat.reduceSub, Array.replicate_succ, Array.replicate_zero, List.push_toArray, List.append_toArray, List.nil_append, List.cons_append]
 gi_wp2
 refine ⟨wide_any _, ?_⟩
 refine hR.mono ?_
 clear hR hy
 rintro e W2 ⟨rfl, S2, hJ2, hk2, hs2⟩
 have hS : ¬ S W.heap.size := fun h => by have := hJb _ _ _ hJ _ h; omega
 have hbox2 := hk2.blk hbox hS
 have hp2 := hk2.F hs2 (Kd.F_below hp hb1)
 have ht2 := hk2.F hs2 (Kd.F_below ht hb1)
 have hK2 := (Keeps.of_below hb1 S).trans hk2 (fun b h => .inl h)
 have hs2' : ∀ k, S2 k → S k ∨ W.heap.size ≤ k := fun k h => (hs2 k h).imp_right (fun h => by simp at h; omega)
 clear hk2 hs2 hbox hb1 hS hp ht hJ
 have hc0 : W2.cell? ⟨W.heap.size, 0, none⟩ = some (.int .i64 f) := (yaa_ hbox2 0).trans rfl
 have hc1 : W2.cell? ⟨W.heap.size, 1, none⟩ = some (.slice As kids.length cs) := (yaa_ hbox2 1).trans rfl
 obtain ⟨ks, Ak, ck, hparts, hks, hflat, hmem⟩ : ∃ (ks : List S30) (Ak : Option Addr) (ck : Nat), (∀ w : World, Calls Try.prog 74 #[.agg #[.int .i64 f, .slice As kids.length cs]] w fun e w' => e = .returned (.slice Ak ks.length ck) ∧ w' = w.alloc (.cells #[.int .i64 f, .slice As kids.length cs] 30)) ∧
   Kd.F k30 W2 (fun k => ¬ S2 k) Ak ks.length ks ∧ flatP p ⟨f, kids⟩ = (p, ⟨f, kids⟩) :: flatPs p 0 ks ∧ ∀ x ∈ ks, x ∈ kids := by
  by_cases hf : f < 0
  ·exact ⟨[], none, 0, fun w => parts_neg f _ w (decide_eq_true hf), Kd.F_nil _ _ _, by simp [flatP, hf, flatPs], by simp⟩
  ·exact ⟨kids, As, cs, fun w => parts_pos f _ _ _ w (decide_eq_false hf), ht2, by simp [flatP, hf], fun x h => h⟩
 have hfl := Az_.mk hflat
 clear hflat ht2 htc
 have hpp := Az_.mk hparts
 clear hparts
 have hpz := Az_.mk hp2
 have hkz := Az_.mk hks
 have hKz := Az_.mk hK2
 have hJz := Az_.mk hJ2
 have hNz := Az_.mk hN
 have hMz := Az_.mk hM
 clear hp2 hks hK2 hJ2 hN hM
 gi_wp2_with (refine ⟨trivial, ?_⟩; (try refine ⟨wide_any _, ?_⟩); gi_at_call 74; refine (callsIn_wide.2 (hpp.out _)).mono ?_; rintro e w' ⟨rfl, rfl⟩)
 have hb3 : Below W2.heap.size W2 (W2.alloc (.cells #[.int .i64 f, .slice As kids.length cs] 30)) := bA_ (Below.refl _ _) _
 have hkl : ks.length ≤ 9223372036854775807 := Kd.F_max hkz.out
 gi_loopw [17] (fun i wr => ∃ (k : Nat) (S3 : Nat → Prop), k ≤ ks.length ∧ i = .int .i64 k ∧ Az_ (J S3 (pre ++ (p, ⟨f, kids⟩) :: flatPs p 0 (ks.take k)) wr) ∧ Az_ (Keeps W wr S) ∧ Az_ (∀ k, S3 k → S k ∨ W.heap.size ≤ k) ∧ Az_ (Kd.F (Kd.int .i64) wr (fun k => ¬ S3 k) A p.length p) ∧ Az_ (Kd.F k30 wr (fun k => ¬ S3 k) Ak ks.length ks))
  (fun i wr => ks.length - (intOf i).toNat)
 case atStart =>
  exact ⟨0, S2, Nat.zero_le _, rfl, ⟨by simpa [flatPs] using hJs _ _ _ _ hJz.out hb3⟩, ⟨hKz.out.below hb3⟩, ⟨hs2'⟩, ⟨Kd.F_below hpz.out hb3⟩, ⟨Kd.F_below hkz.out hb3⟩⟩
 case round =>
  obtain ⟨k, S3, hk, rfl, hJ3, hK3, hs3, hp3, hk3⟩ := hrel
  clear hJz hKz hpz hkz hb3
  by_cases hlt : k < ks.length
  ·obtain ⟨ad, cc, hAk, hcl, hFK, hcell, hadok⟩ := Kd.F_get hk3.out z30 (k : Int) (by omega) (by omega)
   simp only [Int.toNat_natCast] at hFK hcell
   have hx : ks.getD k z30 = ks[k] := by simp [List.getD_eq_getElem?_getD, hlt]
   rw [hx] at hFK
   obtain ⟨A1, c1, rfl, hl1, hF1⟩ := k30_openF hFK
   have hx0 : wr.cell? (ad.add (k * 2)) = some (.int .i64 ks[k].f0) := hcell 0 _ rfl
   have hx1 : wr.cell? ⟨(ad.add (k * 2)).block, (ad.add (k * 2)).off + 1, none⟩ = some (.slice A1 ks[k].f1.length c1) := by rw [← add_field _ _ 1 (by omega)]; exact hcell 1 _ rfl
   have hxe := hmem ks[k] (List.getElem_mem hlt)
   have hF1z := Az_.mk hF1
   have hl1z := Az_.mk hl1
   clear hFK hcell hadok hx hF1 hl1 hcl
   subst hAk
   generalize hxk : ks[k] = x at hx0 hx1 hxe hF1z hl1z
   have hxz := Az_.mk hxk
   clear hxk
   gi_wp2
   refine wpIn_wide.2 ?_
   have hb4 : Below wr.heap.size wr (wr.alloc (.cells #[.int .i64 x.f0, .slice A1 x.f1.length c1] 30)) := bA_ (Below.refl _ _) _
   have hB4 : (wr.alloc (.cells #[.int .i64 x.f0, .slice A1 x.f1.length c1] 30)).heap[wr.heap.size]? = some (.cells #[.int .i64 x.f0, .slice A1 x.f1.length c1] 30 (0, 0)) := heap_alloc_new _ _
   have hb5 := hb4.drew
   have hB5 := kD_ hB4
   refine start_ (n := 9) (S := fun w' => w'.cell? ⟨wr.heap.size, 0, none⟩ = some (.int .i64 x.f0) ∧ w'.cell? ⟨wr.heap.size, 1, none⟩ = some (.slice A1 x.f1.length c1)) (ds := [7]) #[false, false, false, false, false, false, false, false, false] (by kernel_rfl) rfl rfl ⟨(yaa_ hB5 0).trans rfl, (yaa_ hB5 1).trans rfl⟩ (fun hHeld => ?_)
   generalize World.drew (wr.alloc (.cells #[.int .i64 x.f0, .slice A1 x.f1.length c1] 30)) = w5 at hb5 hB5 hHeld ⊢
   clear hb4 hB4 hx0 hx1
   refine pure_ (i := 0) (N := some 22) (v := ?_) (a' := ?_) #[true, false, false, false, false, false, false, false, false] rfl rfl (by kernel_rfl) (fun _ _ _ h => h) (Or.inl ⟨by rfl, ?_⟩) ?_ ?_
   rotate_left
   ·intro w'
    go_simp
    with_reducible rfl
   rotate_left
   ·simp only [Act.put, List.setIfInBounds_toArray, List.set_cons_zero, List.set_cons_succ, i64_w, i32_w]
    rfl
   refine pure_ (i := 2) (N := some 24) (v := ?_) (a' := ?_) #[true, false, true, false, false, false, false, false, false] rfl rfl (by kernel_rfl) (fun _ _ _ h => h) (Or.inl ⟨by rfl, ?_⟩) ?_ ?_
   rotate_left
   ·intro w'
    go_simp
    with_reducible rfl
   rotate_left
   ·simp only [Act.put, List.setIfInBounds_toArray, List.set_cons_zero, List.set_cons_succ, i64_w, i32_w]
    rfl
   refine pure_ (i := 6) (N := some 28) (v := ?_) (a' := ?_) #[true, false, true, false, false, false, true, false, false] rfl rfl (by kernel_rfl) (fun _ _ _ h => h) (Or.inl ⟨by rfl, ?_⟩) ?_ ?_
   rotate_left
   ·intro w'
    go_simp
    with_reducible rfl
   rotate_left
   ·simp only [Act.put, List.setIfInBounds_toArray, List.set_cons_zero, List.set_cons_succ, i64_w, i32_w]
    rfl
   refine take_ (i := 5) (N := some 27) (v := ?_) (a' := ?_) #[true, false, true, false, false, true, true, false, false] rfl rfl (by kernel_rfl) (fun _ _ _ h => h) (Or.inl ⟨by rfl, ?_⟩) hHeld ?_ ?_
   rotate_left
   ·rintro w' ⟨s0, s1⟩
    go_simp
    with_reducible rfl
   rotate_left
   ·simp only [Act.put, List.setIfInBounds_toArray, List.set_cons_zero, List.set_cons_succ, i64_w, i32_w]
    rfl
   have hpl : p.length < 1099511627776 := by
    have h1 := hMz.out
    rw [hfl.out] at h1
    simp at h1
    omega
   have hflk := flatPs_take p ks k hlt
   rw [hxz.out] at hflk
   have hfle := flatPs_take_le p ks (k + 1)
   have hlen : (flatP (p ++ [(k : Int)]) x).length + (flatPs p 0 (ks.take k)).length + 1 ≤ (flatP p ⟨f, kids⟩).length := by
    rw [hfl.out]
    rw [hflk] at hfle
    simp at hfle ⊢
    omega
   have hlz := Az_.mk hlen
   have hflkz := Az_.mk hflk
   clear hlen hflk hfle
   refine join_ (σ := Unit) 3 #[true, true, true, true, false, true, true, false, false] (fun _ => [(23, .slice A p.length p.length), (25, .slice (some ⟨w5.heap.size, 0, none⟩) 1 1)]) (fun _ w' => w' = w5.alloc (.cells #[.int .i64 (k : Int)] 3)) ?cont ?two
   case cont =>
    rintro _ w6 rfl
    refine norm_ (a' := ?_) ?_ ?_
    rotate_left
    ·simp only [putAll, Act.put, List.setIfInBounds_toArray, List.set_cons_zero, List.set_cons_succ, i64_w, i32_w]
     rfl
    refine one_ (i := 4) (N := some 26) #[true, true, true, true, true, true, true, false, false] rfl rfl (by kernel_rfl) (by decide) (fun K hK => ?_)
    obtain ⟨i0, hi, hz0, hz1, hz2⟩ := info_parts info3
    have hB6 := kA_ hB5 (.cells #[.int .i64 (k : Int)] 3)
    have hb6 : Below wr.heap.size wr (w5.alloc (.cells #[.int .i64 (k : Int)] 3)) := hb5.alloc hb5.size _
    have hN6 : (w5.alloc (.cells #[.int .i64 (k : Int)] 3)).heap[w5.heap.size]? = some (.cells #[.int .i64 (k : Int)] 3 (0, 0)) := heap_alloc_new _ _
    have hsz6 : w5.heap.size < (w5.alloc (.cells #[.int .i64 (k : Int)] 3)).heap.size := by simp
    generalize w5.alloc (.cells #[.int .i64 (k : Int)] 3) = w6 at hB6 hb6 hN6 hsz6 ⊢
    have hC := Kd.F_now (Kd.F_below hp3.out hb6)
    refine step_append_grows rfl (.tmp 23) (.tmp 25) 25 rfl 3 i0 (.int .i64 0) 1 8 Try.underlying25 hi hz0 hz1 hz2 rfl (by decide) A p.length p.length (p.map (.int .i64)) rfl ?hnone (by simp) ?holds ⟨w5.heap.size, 0, none⟩ 1 1 [.int .i64 (k : Int)] rfl rfl ?hnews (by intro u hu; simp at hu; subst hu; rfl) (by omega) (by simp only [maxLen]; omega) (by omega) ?_
    case hnone =>
     intro hA
     have h0 : p.length = 0 := by
      rcases Nat.eq_zero_or_pos p.length with h | h
      ·exact h
      ·obtain ⟨ad', e', _⟩ := hC.2.2 h
       rw [hA] at e'
       cases e'
     exact ⟨h0, h0⟩
    case holds =>
     intro b hb j u hu
     have hj : j < p.length := by
      have := (List.getElem?_eq_some_iff.1 hu).1
      simpa using this
     obtain ⟨ad', e', hcj⟩ := Kd.at_int hC (j : Int) (by omega) (by omega)
     rw [hb] at e'
     cases e'
     simp only [Int.toNat_natCast, rd] at hcj
     rw [hcj]
     simp only [List.getElem?_map, List.getElem?_eq_getElem hj, Option.map_some] at hu
     simpa [List.getD_eq_getElem?_getD, List.getElem?_eq_getElem hj] using hu
    case hnews =>
     intro j u hu
     cases j with
     | zero =>
      simp at hu
      subst hu
      rw [add_plain]
      exact (yaa_ hN6 0).trans rfl
     | succ j => simp at hu
    intro v1 w7 hown hg
    have hR : (Kd.int .i64).R 3 w7 w6.heap.size (fun b => w6.heap.size ≤ b) v1 (p ++ [(k : Int)]) := Kd.R_of_own (by simpa [encs] using hown) (fun b hb => own_base hown b hb)
    obtain ⟨A2, c2, hv, hl2, _⟩ := Kd.R_reads hR
    subst hv
    have hF2 := Kd.R_F hR
    have hb7 : Below wr.heap.size wr w7 := hb6.grown hg hb6.size (by simp)
    have hB7 := blk_grown hB6 hg (by simp)
    have hsz7 := hb6.size
    have hJ7 := hJs _ _ _ _ hJ3.out hb7
    have hF2' : Kd.F (Kd.int .i64) w7 (fun b => ¬ S3 b) A2 (p ++ [(k : Int)]).length (p ++ [(k : Int)]) := Kd.F_mono hF2 (fun b hb h => by have := hJb _ _ _ hJ3.out b h; omega)
    have hFx := Kd.F_below hF1z.out hb7
    have hFp7 := Kd.F_below hp3.out hb7
    have hFk7 := Kd.F_below hk3.out hb7
    have hK7 := hK3.out.below hb7
    clear hR hF2 hown hC hB6 hb6 hN6 hg hHeld hB5 hb5
    refine hK.out _ _ ⟨(yaa_ hB7 0).trans rfl, (yaa_ hB7 1).trans rfl⟩ (fun hHeld => ?_)
    clear hK K
    refine norm_ (a' := ?_) ?_ ?_
    rotate_left
    ·show Act.put _ (some 26) _ = _
     simp only [Act.put, List.setIfInBounds_toArray, List.set_cons_zero, List.set_cons_succ, i64_w, i32_w]
     rfl
    refine last_ (i := 7) (N := some 29) #[true, true, true, true, true, true, true, true, false] rfl rfl (by kernel_rfl) (by decide) (fun K hK => ?_)
    refine goes_ Try.func104 (by kernel_rfl) rfl #[.slice A2 (p ++ [(k : Int)]).length c2, .agg #[.int .i64 x.f0, .slice A1 x.f1.length c1], .func (.yield l) #[] #[]] (by rfl) rfl rfl (by (try simp only [List.map_toArray, List.map_cons, List.map_nil]); first | done | rfl) ?_
    refine (callsIn_wide.1 (ih x hxe 0 S3 (p ++ [(k : Int)]) A2 c2 A1 c1 _ w7 hJ7 hF2' hl2 hFx hl1z.out ?_ ?_)).mono ?_
    ·have h1 := hlz.out
     have h2 := hNz.out
     simp only [List.length_append, List.length_cons]
     omega
    ·have h1 := hlz.out
     have h2 := hMz.out
     simp only [List.length_append, List.length_cons, List.length_nil]
     omega
    rintro e w8 ⟨rfl, S4, hJ4, hK4, hs4⟩
    refine ⟨_, rfl, ?_⟩
    refine hK.out _ _ ?_
    clear hK K
    refine norm_ (a' := ?_) ?_ ?_
    rotate_left
    ·show Act.put _ (some 29) _ = _
     simp only [Act.put, List.setIfInBounds_toArray, List.set_cons_zero, List.set_cons_succ, i64_w, i32_w]
     rfl
    refine pure_ (i := 8) (N := some 30) (v := ?_) (a' := ?_) #[true, true, true, true, true, true, true, true, true] rfl rfl (by kernel_rfl) (fun _ _ _ h => h) (Or.inl ⟨by rfl, ?_⟩) ?_ ?_
    rotate_left
    ·intro w'
     go_simp
     with_reducible rfl
    rotate_left
    ·simp only [Act.put, List.setIfInBounds_toArray, List.set_cons_zero, List.set_cons_succ, i64_w, i32_w]
     rfl
    refine done_ (by kernel_rfl) ?_
    have hFp8 := Az_.mk (hK4.F hs4 hFp7)
    have hFk8 := Az_.mk (hK4.F hs4 hFk7)
    have hK8 := Az_.mk (hK7.trans hK4 hs3.out)
    have hs8 : Az_ (∀ b, S4 b → S b ∨ W.heap.size ≤ b) := ⟨fun b hb => (hs4 b hb).elim (hs3.out b) (fun h => .inr (by have h1 := hK7.size; omega))⟩
    have hJ8 : Az_ (J S4 (pre ++ (p, ⟨f, kids⟩) :: flatPs p 0 (ks.take (k + 1))) w8) := ⟨by rw [hflkz.out]; simpa [List.append_assoc] using hJ4⟩
    clear hK4 hs4 hFp7 hFk7 hK7 hs3 hJ4 hJ7 hFx hF2' hB7 hb7 hHeld
    gi_wp2
    go_roundw
    case rel => exact ⟨k + 1, S4, by omega, by go_num, hJ8, hK8, hs8, hFp8, hFk8⟩
    case measure => simp [intOf]; omega
   intro hcont
   refine two_ (i := 1) (j := 3) (Ni := some 23) (Nj := some 25) #[true, true, true, false, false, true, true, false, false] #[true, false, true, true, false, true, true, false, false] rfl rfl rfl rfl (by kernel_rfl) (by decide) (by decide) (fun K hK => ?_) (fun K hK => ?_)
   ·refine goes_ Try.func109 (by kernel_rfl) rfl #[.slice A p.length c] (by rfl) rfl rfl (by (try simp only [List.map_toArray, List.map_cons, List.map_nil]); first | done | rfl) ?_
    refine (clip_any A p.length c _ hpc (by omega)).mono ?_
    rintro e w6 ⟨rfl, rfl⟩
    refine ⟨_, rfl, ?_⟩
    refine hK.out _ _ hHeld (fun hHeld => ?_)
    clear hK K
    refine norm_ (a' := ?_) ?_ ?_
    rotate_left
    ·show Act.put _ (some 23) _ = _
     simp only [Act.put, List.setIfInBounds_toArray, List.set_cons_zero, List.set_cons_succ, i64_w, i32_w]
     rfl
    refine one_ (i := 3) (N := some 25) #[true, true, true, true, false, true, true, false, false] rfl rfl (by kernel_rfl) (by decide) (fun K hK => ?_)
    refine value_ (w1 := ?_) (v := ?_) (by rfl) rfl ?_ ?_
    rotate_left 2
    ·go_simp
     constructor
     ·rfl
     ·rfl
    refine hK.out _ _ ⟨(yaa_ (kA_ hB5 _) 0).trans rfl, (yaa_ (kA_ hB5 _) 1).trans rfl⟩ (fun hHeld => ?_)
    clear hK K
    refine norm_ (a' := ?_) ?_ ?_
    rotate_left
    ·show Act.put _ (some 25) _ = _
     simp only [Act.put, List.setIfInBounds_toArray, List.set_cons_zero, List.set_cons_succ, i64_w, i32_w]
     rfl
    have h := hcont () _ rfl
    simp only [putAll, Act.put, List.setIfInBounds_toArray, List.set_cons_zero, List.set_cons_succ, i64_w, i32_w] at h
    exact h
   ·refine value_ (w1 := ?_) (v := ?_) (by rfl) rfl ?_ ?_
    rotate_left 2
    ·go_simp
     constructor
     ·rfl
     ·rfl
    refine hK.out _ _ ⟨(yaa_ (kA_ hB5 _) 0).trans rfl, (yaa_ (kA_ hB5 _) 1).trans rfl⟩ (fun hHeld => ?_)
    clear hK K
    refine norm_ (a' := ?_) ?_ ?_
    rotate_left
    ·show Act.put _ (some 25) _ = _
     simp only [Act.put, List.setIfInBounds_toArray, List.set_cons_zero, List.set_cons_succ, i64_w, i32_w]
     rfl
    refine one_ (i := 1) (N := some 23) #[true, true, true, true, false, true, true, false, false] rfl rfl (by kernel_rfl) (by decide) (fun K hK => ?_)
    refine goes_ Try.func109 (by kernel_rfl) rfl #[.slice A p.length c] (by rfl) rfl rfl (by (try simp only [List.map_toArray, List.map_cons, List.map_nil]); first | done | rfl) ?_
    refine (clip_any A p.length c _ hpc (by omega)).mono ?_
    rintro e w6 ⟨rfl, rfl⟩
    refine ⟨_, rfl, ?_⟩
    refine hK.out _ _ hHeld (fun hHeld => ?_)
    clear hK K
    refine norm_ (a' := ?_) ?_ ?_
    rotate_left
    ·show Act.put _ (some 23) _ = _
     simp only [Act.put, List.setIfInBounds_toArray, List.set_cons_zero, List.set_cons_succ, i64_w, i32_w]
     rfl
    have h := hcont () _ rfl
    simp only [putAll, Act.put, List.setIfInBounds_toArray, List.set_cons_zero, List.set_cons_succ, i64_w, i32_w] at h
    exact h
  ·gi_wp2
   go_ret
   exact ⟨rfl, S3, by rw [hfl.out]; have h := hJ3.out; rwa [List.take_of_length_le (by omega)] at h, hK3.out, hs3.out⟩
end
section
open Go.RowKit Go.Shelf Go.Proofs.YtpfddihcikiofaaW.PrintWords Go.Proofs.YtpfddihcikiofaaW.PrintLast Go.Proofs.YtpfddihcikiofaaW.PrintMore
attribute [local go_sem] Oper.semAt_some
set_option maxRecDepth 100000 in
set_option maxHeartbeats 1000000 in
theorem all1_in (l N B : Nat) (J : (Nat → Prop) → List (List Int × S30) → World → Prop) (hJb : ∀ S pre W, J S pre W → ∀ k, S k → k < W.heap.size)
  (hJs : ∀ S pre W W', J S pre W → Below W.heap.size W W' → J S pre W') (hY : Yields l J N) (t : S30) (n : Nat) (S : Nat → Prop) (As : Option Addr) (cs : Nat) (W : World) (hJ : J S [] W)
  (hB : W.heap[B]? = some (.cells #[.int .i64 t.f0, .slice As t.f1.length cs] 30 (0, 0))) (ht : Kd.F k30 W (fun k => ¬ S k) As t.f1.length t.f1) (hc : t.f1.length ≤ cs)
  (hN : (flatP [] t).length ≤ N) (hM : N ≤ 1099511627776) :
  CallsIn Fence.wide n Try.prog 103 #[.func (.yield l) #[] #[], .pointer (some ⟨B, 0, none⟩)] W fun e W' => (∃ v, e = .returned v) ∧ ∃ S' : Nat → Prop, J S' (flatP [] t) W' ∧ Keeps W W' S ∧ ∀ k, S' k → S k ∨ W.heap.size ≤ k := by
 have hw := callsIn_wide.1 (walkIn_ l N J hJb hJs hY t 0 S [] none 0 As cs [] W hJ (Kd.F_nil _ _ _) (Nat.le_refl _) ht hc (by simpa using hN) (by simp; omega))
 have hc0 : W.cell? ⟨B, 0, none⟩ = some (.int .i64 t.f0) := (yaa_ hB 0).trans rfl
 have hc1 : W.cell? ⟨B, 1, none⟩ = some (.slice As t.f1.length cs) := (yaa_ hB 1).trans rfl
 refine callsIn_wide.2 ?_
 go_enter Try.func103, Try.ntmps103
 go_wp2_with (go_at_call 104; refine hw.mono ?_; rintro e W' ⟨rfl, S', h1, h2, h3⟩)
 go_end0
 exact ⟨⟨_, rfl⟩, S', by simpa using h1, h2, h3⟩
theorem all_any (f : Int) (v : Value) (w : World) : Calls Try.prog 72 #[.agg #[.int .i64 f, v]] w fun e w' => e = .returned (.func (.func 103) #[] #[.pointer (some ⟨w.heap.size, 0, none⟩)]) ∧ w' = w.alloc (.cells #[.int .i64 f, v] 30) := by
 go_enter Try.func72, Try.ntmps72
 go_wp2
 go_ret
 exact ⟨rfl, rfl⟩
theorem Keeps.setCell (W : World) (a : Addr) (v : Value) : Keeps W (W.setCell a v) (fun k => k = a.block) := ⟨rfl, rfl, rfl, by simp [World.setCell], fun k _ hn => Below.heap_setCell _ _ _ _ hn⟩
theorem below_put {B : Nat} {w W : World} (h : Below B w W) (hB : B ≤ W.heap.size) {D : Nat} (hD : B ≤ D) (o : Obj) : Below B w (W.putObj D o) := h.grown (grownBy_putObj' W D o) hB (fun k e => by cases e; exact hD)
def bodyEnd (I : (Nat → Prop) → List (List Int × S30) → World → Prop) (S : Nat → Prop) (n0 : Nat) (pre : List (List Int × S30)) (W : World) : Exit → Act → World → Prop
 | .normal, _, W' => ∃ S' : Nat → Prop, I S' pre W' ∧ Keeps W W' S ∧ ∀ k, S' k → S k ∨ n0 ≤ k
 | .ret, _, _ => False
 | .exit _, _, _ => False
 | .goto _, _, _ => False
 | .panic _, _, _ => False
 | .outgrown, _, _ => False
set_option maxRecDepth 100000 in
set_option maxHeartbeats 1000000 in
theorem range_all {g : Operand} {i j : Tmp} {assign body : Code} {Q : Exit → Act → World → Prop} {a : Act} {w : World} {n B : Nat}
  (hg : a.eval g = .func (.func 103) #[] #[.pointer (some ⟨B, 0, none⟩)])
  (t : S30) (S : Nat → Prop) (As : Option Addr) (cs : Nat) (hB : w.heap[B]? = some (.cells #[.int .i64 t.f0, .slice As t.f1.length cs] 30 (0, 0))) (ht : Kd.F k30 w (fun k => ¬ S k) As t.f1.length t.f1) (hc : t.f1.length ≤ cs)
  (hM : (flatP [] t).length ≤ 1099511627776)
  (I : (Nat → Prop) → List (List Int × S30) → World → Prop)
  (hIc : ∀ S pre W, I S pre W → ∀ k, S k → ∃ o : Obj, W.heap[k]? = some o ∧ o.isCells = true)
  (hIs : ∀ S pre (W W' : World), I S pre W → W.heap.size ≤ W'.heap.size → (∀ k, S k → k < W.heap.size → W'.heap[k]? = W.heap[k]?) → I S pre W')
  (h0 : I S [] w)
  (Ax : (Nat → Prop) → Nat → List Int → S30 → Option Addr → Nat → Option Addr → Nat → Act → World → Prop)
  (hAx : ∀ S n0 p s A c As cs a₁ (W W' : World), Ax S n0 p s A c As cs a₁ W → W.heap.size ≤ W'.heap.size → (∀ k, n0 ≤ k → k < W.heap.size → W'.heap[k]? = W.heap[k]?) → Ax S n0 p s A c As cs a₁ W')
  (hassign : ∀ (l m : Nat) (S : Nat → Prop) (p : List Int) (s : S30) (A : Option Addr) (c : Nat) (As : Option Addr) (cs : Nat) (W : World) (K : Act → World → Prop),
   (∀ a₁ W₁, Below W.heap.size W W₁ → Ax S W.heap.size p s A c As cs a₁ W₁ → K a₁ W₁) →
   assign.wpIn (Fence.wide.inRound l) m Try.prog (Exit.then K (fun _ _ _ => False)) { tmps := (a.tmps.setIfInBounds i (.slice A p.length c)).setIfInBounds j (.agg #[.int .i64 s.f0, .slice As s.f1.length cs]), defers := [] } W)
  (hbody : ∀ (l m : Nat) (S : Nat → Prop) (n0 : Nat) (pre : List (List Int × S30)) (p : List Int) (s : S30) (A : Option Addr) (c : Nat) (As : Option Addr) (cs : Nat) (a₁ : Act) (W : World), I S pre W → (∀ k, S k → k < n0) → n0 ≤ W.heap.size → pre.length < (flatP [] t).length → p.length ≤ 1099511627776 →
   Kd.F (Kd.int .i64) W (fun k => ¬ S k) A p.length p → p.length ≤ c → Kd.F k30 W (fun k => ¬ S k) As s.f1.length s.f1 → s.f1.length ≤ cs → Ax S n0 p s A c As cs a₁ W →
   body.wpIn (Fence.wide.inRound l) m Try.prog (bodyEnd I S n0 (pre ++ [(p, s)]) W) a₁ W)
  (hdone : ∀ (D : Nat) (S' : Nat → Prop) (W' : World), I S' (flatP [] t) W' → Keeps w W' S → (∀ k, S' k → S k ∨ w.heap.size ≤ k) → W'.heap[D]? = some (.deferred (some [])) → w.heap.size ≤ D → Q .normal { a with defers := { target := .collected D, args := #[] } :: a.defers } W') :
  (Code.rangeFunc g #[i, j] assign body).wpIn Fence.wide n Try.prog Q a w := by
 refine wpIn_rangeFunc ?_
 intro fn hfn
 rw [show Fence.wide.round = none from rfl]
 obtain ⟨rec, hrec⟩ : ∃ rec : LoopState → Option Code → Loop, rec = fun st pe => { state := st, pending := pe, fn, tmps := a.tmps, params := #[i, j], assign, body, defers := w.heap.size } := ⟨_, rfl⟩
 obtain ⟨W1, hW1⟩ : ∃ W1, (w.alloc (.deferred (some []))).alloc (.loop (rec .ready none)) = W1 := ⟨_, rfl⟩
 have hL1 : W1.heap[w.heap.size + 1]? = some (.loop (rec .ready none)) := by
  rw [← hW1]; have := World.alloc_heap_new (w.alloc (.deferred (some []))) (.loop (rec .ready none)); rwa [World.size_alloc] at this
 have hK1 : W1.heap[w.heap.size]? = some (.deferred (some [])) := by
  rw [← hW1]; exact (Below.heap_alloc _ _ _ (by simp)).trans (World.alloc_heap_new w _)
 have hb1 : Below w.heap.size w W1 := by
  rw [← hW1]; exact ((Below.refl _ w).alloc (Nat.le_refl _) _).alloc (by simp) _
 have hI1 : I S [] W1 := hIs _ _ _ _ h0 hb1.size (fun k _ hk => hb1.block k hk)
 refine ⟨w.heap.size + 1, [{ target := .collected w.heap.size, args := #[] }], W1, { target := .fn (.func 103) #[.pointer (some ⟨B, 0, none⟩)], args := #[.func (.yield (w.heap.size + 1)) #[] #[]] }, W1, 103,
  #[.func (.yield (w.heap.size + 1)) #[] #[]] ++ #[.pointer (some ⟨B, 0, none⟩)], W1, ?_, ?_, fun _ _ => trivial, ?_, fun h => (by cases h), ?_⟩
 ·rw [← hW1, hrec]; exact run_enterLoop_outer _ _ _ _ _
 ·simp only [resolve, hg]
  simp [go_sem]
 ·have eg := enters_ (P := Try.prog) Try.func103 (by kernel_rfl) rfl
  simp [invoke, go_sem, eg]
 ·have hcellne : ∀ {S pre W k}, I S pre W → S k → ∀ {o : Obj}, W.heap[k]? = some o → o.isCells = true := fun {S pre W k} hI hk {o} ho => by
   obtain ⟨o', ho', hc'⟩ := hIc _ _ _ hI k hk
   rw [ho] at ho'; cases ho'; exact hc'
  have hlt : ∀ {S pre W k}, I S pre W → S k → k < W.heap.size := fun {S pre W k} hI hk => by
   obtain ⟨o', ho', _⟩ := hIc _ _ _ hI k hk
   exact blk_lt ho'
  refine (all1_in (w.heap.size + 1) (flatP [] t).length B
   (fun SJ pre W => ∃ S : Nat → Prop, SJ = (fun k => S k ∨ k = w.heap.size + 1 ∨ k = w.heap.size) ∧ I S pre W ∧ W.heap[w.heap.size + 1]? = some (.loop (rec .ready none)) ∧ W.heap[w.heap.size]? = some (.deferred (some [])))
   ?_
   (fun SJ pre W W' ⟨S, e, h1, h2, h3⟩ hb => ⟨S, e, hIs _ _ _ _ h1 hb.size (fun k _ hk => hb.block k hk), kB_ h2 hb, kB_ h3 hb⟩)
   ?_ t _ (fun k => S k ∨ k = w.heap.size + 1 ∨ k = w.heap.size) As cs W1 ⟨S, rfl, hI1, hL1, hK1⟩ (kB_ hB hb1) ?_ hc (Nat.le_refl _) hM).mono ?_
  ·rintro SJ pre W ⟨S, rfl, h1, h2, h3⟩ k (hk | rfl | rfl)
   ·exact hlt h1 hk
   ·exact blk_lt h2
   ·exact blk_lt h3
  ·
   rintro m SJ pre p s A c As2 cs2 W ⟨S2, rfl, hi, hl, hk⟩ hlen hpm hp hpc hs hsc
   have hy := run_yield (P := Try.prog) (args := #[.slice A p.length c, .agg #[.int .i64 s.f0, .slice As2 s.f1.length cs2]]) hl (by rw [hrec]; rfl)
   rw [hrec] at hy
   have hz : ∀ (u v : Value), (#[i, j].zip #[u, v]).foldl (fun (t : Array Value) (x : Tmp × Value) => t.setIfInBounds x.1 x.2) a.tmps = (a.tmps.setIfInBounds i u).setIfInBounds j v := fun u v => by simp
   rw [show ∀ (u v : Value), (#[i, j].zip #[u, v]).foldl (fun (t : Array Value) (x : Tmp × Value) => t.setIfInBounds x.1 x.2) a.tmps = (a.tmps.setIfInBounds i u).setIfInBounds j v from hz] at hy
   refine ⟨fn, _, assign, body, hy, roundIn_of_wpIn trivial (hassign _ m S2 p s A c As2 cs2 W _ (fun a₁ W₁ hb hax => ⟨_, run_beginRound (kB_ hl hb) (by rw [hrec]), ?_⟩))⟩
   have hll := blk_lt hl
   have hkl := blk_lt hk
   have hl2 : (W₁.putObj (w.heap.size + 1) (.loop { rec .ready none with state := .busy })).heap[w.heap.size + 1]? = some (.loop { rec .ready none with state := .busy }) := World.putObj_heap_same (Nat.lt_of_lt_of_le hll hb.size)
   have hk2 : (W₁.putObj (w.heap.size + 1) (.loop { rec .ready none with state := .busy })).heap[w.heap.size]? = some (.deferred (some [])) := (World.putObj_heap_other (by omega)).trans (kB_ hk hb)
   have hSl : ¬ S2 (w.heap.size + 1) := fun h => by have := hcellne hi h hl; cases this
   have hSk : ¬ S2 w.heap.size := fun h => by have := hcellne hi h hk; cases this
   have hkp : Keeps W (W₁.putObj (w.heap.size + 1) (.loop { rec .ready none with state := .busy })) (fun k => k = w.heap.size + 1) :=
    ⟨hb.os, hb.tape, hb.output, by simpa using hb.size, fun k hk hn => (World.putObj_heap_other (by omega)).trans (hb.block k hk)⟩
   have hax2 := hAx _ _ _ _ _ _ _ _ _ _ (W₁.putObj (w.heap.size + 1) (.loop { rec .ready none with state := .busy })) hax (by simp) (fun k hk _ => World.putObj_heap_other (by omega))
   generalize W₁.putObj (w.heap.size + 1) (.loop { rec .ready none with state := .busy }) = W2 at hl2 hk2 hkp hax2 ⊢
   have hi2 : I S2 pre W2 := hIs _ _ _ _ hi hkp.size (fun k hk hlt => hkp.block k hlt (fun e => hSl (e ▸ hk)))
   have hp2 := Kd.F_mono (Kd.F_step hp (fun k hk hlt => hkp.block k hlt (fun e => hk (.inr (.inl e))))) (ok' := fun k => ¬ S2 k) (fun k hk h => hk (.inl h))
   have hs2 := Kd.F_mono (Kd.F_step hs (fun k hk hlt => hkp.block k hlt (fun e => hk (.inr (.inl e))))) (ok' := fun k => ¬ S2 k) (fun k hk h => hk (.inl h))
   refine wpIn_mono (hbody _ m S2 W.heap.size pre p s A c As2 cs2 a₁ W2 hi2 (fun k hk => hlt hi hk) hkp.size hlen hpm hp2 hpc hs2 hsc hax2) ?_
   rintro e a3 W3 hpost
   cases e with
   | normal =>
    obtain ⟨S3, hi3, hk3, hsub3⟩ := hpost
    have hl3 := hk3.blk hl2 hSl
    have hk3' := hk3.blk hk2 hSk
    have hSl3 : ¬ S3 (w.heap.size + 1) := fun h => by have := hcellne hi3 h hl3; cases this
    have hend := run_endRound (P := Try.prog) none hl3
    rw [hrec] at hend
    refine ⟨_, _, hend, rfl, fun k => S3 k ∨ k = w.heap.size + 1 ∨ k = w.heap.size, ⟨S3, rfl, ?_, ?_, ?_⟩, ?_, ?_⟩
    ·exact hIs _ _ _ _ hi3 (by simp) (fun k hk _ => World.putObj_heap_other (fun e => hSl3 (e ▸ hk)))
    ·rw [hrec]
     exact World.putObj_heap_same (blk_lt hl3)
    ·exact (World.putObj_heap_other (by omega)).trans hk3'
    ·refine ⟨hk3.os.trans hkp.os, hk3.tape.trans hkp.tape, hk3.output.trans hkp.output, ?_, ?_⟩
     ·have h1 := hkp.size
      have h2 := hk3.size
      simp
      omega
     ·intro k hk hn
      refine (World.putObj_heap_other (fun e => hn (.inr (.inl e)))).trans ((hk3.block k (Nat.lt_of_lt_of_le hk hkp.size) (fun h => hn (.inl h))).trans (hkp.block k hk (fun e => hn (.inr (.inl e)))))
    ·rintro k (hk | rfl | rfl)
     ·exact (hsub3 k hk).imp_left .inl
     ·exact .inl (.inr (.inl rfl))
     ·exact .inl (.inr (.inr rfl))
   | ret => exact hpost.elim
   | exit id => exact hpost.elim
   | goto t => exact hpost.elim
   | panic ch => exact hpost.elim
   | outgrown => exact hpost.elim
  ·refine Kd.F_mono (Kd.F_bound (Kd.F_below (Kd.F_mono (Kd.F_bound ht) (fun k hk => hk)) hb1)) ?_
   rintro k ⟨⟨hk, hlt'⟩, _⟩ (h | rfl | rfl)
   ·exact hk h
   ·omega
   ·omega
  ·rintro e W2 ⟨⟨v, rfl⟩, SJ, ⟨S', rfl, hi, hl, hk⟩, hkp, hsub⟩
   have hSl : ¬ S' (w.heap.size + 1) := fun h => by have := hcellne hi h hl; cases this
   have hSk : ¬ S' w.heap.size := fun h => by have := hcellne hi h hk; cases this
   refine ⟨none, _, by have := run_endLoop (P := Try.prog) hl (by rw [hrec]; simp); rw [hrec] at this; exact this, ?_⟩
   refine hdone _ S' _ (hIs _ _ _ _ hi (by simp) (fun k hk _ => World.putObj_heap_other (fun e => hSl (e ▸ hk)))) ?_ (fun k hk => ?_) ((World.putObj_heap_other (by omega)).trans hk) (Nat.le_refl _)
   ·have h1 := (Keeps.of_below hb1 S).trans hkp (fun b h => ?_)
    ·exact ⟨h1.os, h1.tape, h1.output, by simpa using h1.size, fun k hk hn => (World.putObj_heap_other (by omega)).trans (h1.block k hk hn)⟩
    ·rcases h with h | rfl | rfl
     ·exact .inl h
     ·exact .inr (by omega)
     ·exact .inr (Nat.le_refl _)
   ·rcases hsub k (.inl hk) with (h | rfl | rfl) | h
    ·exact .inl h
    ·exact .inr (by omega)
    ·exact .inr (Nat.le_refl _)
    ·exact .inr (Nat.le_trans hb1.size h)
end
section
open Go.RowKit Go.Shelf Go.Proofs.YtpfddihcikiofaaW.PrintWords Go.Proofs.YtpfddihcikiofaaW.PrintLast Go.Proofs.YtpfddihcikiofaaW.PrintMore
attribute [local go_sem] Oper.semAt_some
def term_Size.f (a0_0 : Int) (l0_1 : List S30) : Option Int := if (flatP [] ⟨a0_0, l0_1⟩).length ≤ 1099511627776 then some ((flatP [] ⟨a0_0, l0_1⟩).length : Int) else none
set_option maxRecDepth 100000 in
set_option maxHeartbeats 2000000 in
theorem term_Size.calls (a0_0 : Int) (A0_1 : Option Addr) (c0_1 : Nat) (l0_1 : List S30) (r : Int) (w : World) (hr0_1 : Kd.C k30 w A0_1 l0_1.length l0_1) (hc0_1 : l0_1.length ≤ c0_1) (h : term_Size.f a0_0 l0_1 = some r) :
  Calls Try.prog 34 #[.agg #[.int .i64 a0_0, .slice A0_1 l0_1.length c0_1]] w fun e w' => e = .returned (.int .i64 r) ∧ Below w.heap.size w w' := by
 unfold term_Size.f at h
 by_cases hM : (flatP [] ⟨a0_0, l0_1⟩).length ≤ 1099511627776
 ·rw [if_pos hM] at h
  obtain rfl := Option.some.inj h
  clear h
  refine (callsIn_wide (n := 9)).1 ?_
  refine callsIn_of_wp_marks Try.func34 rfl trivial ?_ rfl
  simp only [Try.ntmps34, List.size_toArray, List.length_cons, List.length_nil, Nat.reduceAdd, Nat.reduceSub, Array.replicate_succ, Array.replicate_zero, List.push_toArray, List.append_toArray, List.nil_append, List.cons_append]
  gi_wp2_with (refine ⟨trivial, ?_⟩; (try refine ⟨wide_any _, ?_⟩); gi_at_call 72; refine (callsIn_wide.2 (all_any _ _ _)).mono ?_; rintro e w' ⟨rfl, rfl⟩)
  have hbx : (((w.alloc (.cells #[.int .i64 a0_0, .slice A0_1 l0_1.length c0_1] 30)).alloc (.cells #[.int .i64 0] 3)).alloc (.cells #[.int .i64 a0_0, .slice A0_1 l0_1.length c0_1] 30)).heap[w.heap.size + 1]? = some (.cells #[.int .i64 0] 3 (0, 0)) := by
   have := heap_alloc_new (w.alloc (.cells #[.int .i64 a0_0, .slice A0_1 l0_1.length c0_1] 30)) (.cells #[.int .i64 0] 3)
   rw [World.size_alloc] at this
   exact kA_ this _
  have hbB : (((w.alloc (.cells #[.int .i64 a0_0, .slice A0_1 l0_1.length c0_1] 30)).alloc (.cells #[.int .i64 0] 3)).alloc (.cells #[.int .i64 a0_0, .slice A0_1 l0_1.length c0_1] 30)).heap[w.heap.size + 1 + 1]? = some (.cells #[.int .i64 a0_0, .slice A0_1 l0_1.length c0_1] 30 (0, 0)) := by
   have := heap_alloc_new ((w.alloc (.cells #[.int .i64 a0_0, .slice A0_1 l0_1.length c0_1] 30)).alloc (.cells #[.int .i64 0] 3)) (.cells #[.int .i64 a0_0, .slice A0_1 l0_1.length c0_1] 30)
   rwa [World.size_alloc, World.size_alloc] at this
  have hb2 : Below w.heap.size w (((w.alloc (.cells #[.int .i64 a0_0, .slice A0_1 l0_1.length c0_1] 30)).alloc (.cells #[.int .i64 0] 3)).alloc (.cells #[.int .i64 a0_0, .slice A0_1 l0_1.length c0_1] 30)) := bA_ (bA_ (bA_ (Below.refl _ _) _) _) _
  generalize ((w.alloc (.cells #[.int .i64 a0_0, .slice A0_1 l0_1.length c0_1] 30)).alloc (.cells #[.int .i64 0] 3)).alloc (.cells #[.int .i64 a0_0, .slice A0_1 l0_1.length c0_1] 30) = w2 at hbx hbB hb2 ⊢
  have hF : Kd.F k30 w2 (fun k => ¬ k = w.heap.size + 1) A0_1 l0_1.length l0_1 := Kd.F_mono (Kd.F_below (Kd.C_F k30_heap hr0_1) hb2) (fun k hk h => by omega)
  refine range_all (t := ⟨a0_0, l0_1⟩) (n := 9) rfl (fun k => k = w.heap.size + 1) A0_1 c0_1 hbB hF hc0_1 hM
   (fun S pre W => S = (fun k => k = w.heap.size + 1) ∧ W.heap[w.heap.size + 1]? = some (.cells #[.int .i64 (pre.length : Int)] 3 (0, 0)))
   ?hIc ?hIs ⟨rfl, hbx⟩ (fun S n0 p s A c As cs a W => a = { tmps := #[.agg #[.int .i64 a0_0, .slice A0_1 l0_1.length c0_1], .pointer (some ⟨w.heap.size, 0, none⟩), .int .i64 0, .pointer (some ⟨w.heap.size + 1, 0, none⟩), .agg #[.int .i64 a0_0, .slice A0_1 l0_1.length c0_1], .func (.func 103) #[] #[.pointer (some ⟨w.heap.size + 1 + 1, 0, none⟩)], .slice A p.length c, .agg #[.int .i64 s.f0, .slice As s.f1.length cs], undef, undef, undef], defers := [] }) ?hAx ?assign ?body ?done
  case hIc =>
   rintro S pre W ⟨rfl, hb⟩ k rfl
   exact ⟨_, hb, rfl⟩
  case hIs =>
   rintro S pre W W' ⟨rfl, hb⟩ hs hk
   exact ⟨rfl, (hk _ rfl (blk_lt hb)).trans hb⟩
  case hAx =>
   intro S n0 p s A c As cs a₁ W W' h _ _
   exact h
  case assign =>
   intro l m S p s A c As cs W K hK
   gi_wp2
   exact hK _ _ (Below.refl _ _) (by rfl)
  case body =>
   rintro l m S n0 pre p s A c As cs a₁ W ⟨rfl, hb⟩ hn0 hle hlen hpm hp hpc hs hsc rfl
   have hc0 : W.cell? ⟨w.heap.size + 1, 0, none⟩ = some (.int .i64 (pre.length : Int)) := (yaa_ hb 0).trans rfl
   have hf0 := yab_ hb 0
   have hpl : (pre.length : Int) < 1099511627776 := by omega
   have hbz := Az_.mk hb
   clear hp hs hb
   gi_wp2
   refine ⟨_, ⟨rfl, ?_⟩, Keeps.setCell W _ _, fun k hk => .inl hk⟩
   have := blk_put hbz.out 0 (.int .i64 ((pre.length : Int) + 1)) rfl
   simpa using this
  case done =>
   rintro D S' W' ⟨rfl, hb⟩ hk _ hD hle
   have hc0 : W'.cell? ⟨w.heap.size + 1, 0, none⟩ = some (.int .i64 ((flatP [] ⟨a0_0, l0_1⟩).length : Int)) := (yaa_ hb 0).trans rfl
   have hkz := Az_.mk hk
   have hDz := Az_.mk hD
   clear hk hD hb
   gi_wp2
   refine ⟨by simp, .inl ⟨_, _, rfl, run_takeDeferred hDz.out, ?_⟩⟩
   refine ⟨_, results_tmp rfl _ _ _, rfl, ?_⟩
   have h1 := hkz.out.toBelow hb2.size (fun b hb => by omega)
   have h2 := hkz.out.size
   have h3 := hb2.size
   exact below_put (hb2.trans h1) (by omega) (by omega) _
 ·rw [if_neg hM] at h
  cases h
end
section
mutual
def nodes : S30 → List S30
 | ⟨f, l⟩ => ⟨f, l⟩ :: (if f < 0 then [] else nodess l)
def nodess : List S30 → List S30
 | [] => []
 | x :: r => nodes x ++ nodess r
end
mutual
theorem flatP_snd : ∀ (p : List Int) (t : S30), (flatP p t).map Prod.snd = nodes t
 | p, ⟨f, l⟩ => by
  simp only [flatP, nodes, List.map_cons]
  split
  ·rfl
  ·rw [flatPs_snd p 0 l]
theorem flatPs_snd : ∀ (p : List Int) (i : Nat) (l : List S30), (flatPs p i l).map Prod.snd = nodess l
 | _, _, [] => rfl
 | p, i, x :: r => by
  simp only [flatPs, nodess, List.map_append]
  rw [flatP_snd, flatPs_snd]
end
theorem flatP_len (p : List Int) (t : S30) : (flatP p t).length = (nodes t).length := by rw [← flatP_snd p t, List.length_map]
mutual
theorem nodes_le : ∀ t : S30, (nodes t).length ≤ wt t
 | ⟨f, l⟩ => by
  simp only [nodes, wt, List.length_cons]
  split
  ·simp
  ·have := nodess_le l; omega
theorem nodess_le : ∀ l : List S30, (nodess l).length ≤ wts l
 | [] => by simp [nodess, wts]
 | x :: r => by
  have h1 := nodes_le x
  have h2 := nodess_le r
  simp only [nodess, wts, List.length_append]
  omega
end
def varN (out : List Int) (x : S30) : List Int := if x.f0 < 0 then (if decide (wrap64 (-1 - x.f0) ∈ out) = true then out else out ++ [wrap64 (-1 - x.f0)]) else out
def varsN (l : List S30) : List Int := l.foldl varN []
theorem mem_foldl (l : List S30) : ∀ (o : List Int) (n : Int), n ∈ l.foldl varN o ↔ n ∈ o ∨ ∃ x ∈ l, x.f0 < 0 ∧ n = wrap64 (-1 - x.f0) := by
 induction l with
 | nil => intro o n; simp
 | cons x l ih =>
  intro o n
  rw [List.foldl_cons, ih]
  unfold varN
  by_cases h : x.f0 < 0
  ·rw [if_pos h]
   by_cases h2 : wrap64 (-1 - x.f0) ∈ o
   ·rw [if_pos (decide_eq_true h2)]
    constructor
    ·rintro (h3 | ⟨y, hy, h3⟩)
     ·exact .inl h3
     ·exact .inr ⟨y, by simp [hy], h3⟩
    ·rintro (h3 | ⟨y, hy, h3, rfl⟩)
     ·exact .inl h3
     ·rcases List.mem_cons.1 hy with rfl | hy
      ·exact .inl h2
      ·exact .inr ⟨y, hy, h3, rfl⟩
   ·rw [if_neg (by simp [h2])]
    constructor
    ·rintro (h3 | ⟨y, hy, h3⟩)
     ·rcases List.mem_append.1 h3 with h3 | h3
      ·exact .inl h3
      ·exact .inr ⟨x, by simp, h, by simpa using h3⟩
     ·exact .inr ⟨y, by simp [hy], h3⟩
    ·rintro (h3 | ⟨y, hy, h3, rfl⟩)
     ·exact .inl (by simp [h3])
     ·rcases List.mem_cons.1 hy with rfl | hy
      ·exact .inl (by simp)
      ·exact .inr ⟨y, hy, h3, rfl⟩
  ·rw [if_neg h]
   constructor
   ·rintro (h3 | ⟨y, hy, h3⟩)
    ·exact .inl h3
    ·exact .inr ⟨y, by simp [hy], h3⟩
   ·rintro (h3 | ⟨y, hy, h3, rfl⟩)
    ·exact .inl h3
    ·rcases List.mem_cons.1 hy with rfl | hy
     ·exact absurd h3 h
     ·exact .inr ⟨y, hy, h3, rfl⟩
def countN (f : Int) (l : List S30) : Nat := (l.filter fun x => x.f0 == f).length
end
section
attribute [local go_sem] yaq_ yao_ max_two min_two yal_ yak_ yap_ yan_
def cmp_isNaN_int.f (a0 : Int) : Option (Bool) := some (a0 != a0)
set_option maxHeartbeats 8000000 in
set_option maxRecDepth 100000 in
theorem cmp_isNaN_int.calls (a0 : Int) (r : Bool) (w : World) (h : cmp_isNaN_int.f a0 = some r) :
  Calls Try.prog 106 #[.int .i64 a0] w fun e w' => e = .returned (.bool r) ∧ Drawn0 w w' := by
 have H : (some (a0 != a0)) = some r := h
 clear h
 obtain rfl := Option.some.inj H
 go_enter Try.func106, Try.ntmps106
 go_wp2
 go_ret
 exact ⟨by first | rfl | (simp; done) | (simp [*]; done), by repeat (first | exact Drawn0.refl _ | apply Drawn0.step)⟩
end
section
attribute [local go_sem] yaq_ yao_ max_two min_two yal_ yak_ yap_ yan_
def cmp_Compare_int.f (a0 : Int) (a1 : Int) : Option (Int) := (cmp_isNaN_int.f a0).bind fun t258 => ((cmp_isNaN_int.f a1).bind fun t259 => (if t258 = true then (if t259 = true then (some 0) else (some (-1))) else (if t259 = true then (some 1) else (if a0 < a1 then (some (-1)) else (if a0 > a1 then (some 1) else (some 0))))))
set_option maxHeartbeats 8000000 in
set_option maxRecDepth 100000 in
theorem cmp_Compare_int.calls (a0 : Int) (a1 : Int) (r : Int) (w : World) (h : cmp_Compare_int.f a0 a1 = some r) :
  Calls Try.prog 76 #[.int .i64 a0, .int .i64 a1] w fun e w' => e = .returned (.int .i64 r) ∧ Drawn0 w w' := by
 have H : ((cmp_isNaN_int.f a0).bind fun t258 => ((cmp_isNaN_int.f a1).bind fun t259 => (if t258 = true then (if t259 = true then (some 0) else (some (-1))) else (if t259 = true then (some 1) else (if a0 < a1 then (some (-1)) else (if a0 > a1 then (some 1) else (some 0))))))) = some r := h
 clear h
 replace H := Option.bind_eq_some_iff.mp H
 obtain ⟨t258, A30, H⟩ := H
 replace H : ((cmp_isNaN_int.f a1).bind fun t259 => (if t258 = true then (if t259 = true then (some 0) else (some (-1))) else (if t259 = true then (some 1) else (if a0 < a1 then (some (-1)) else (if a0 > a1 then (some 1) else (some 0)))))) = some r := H
 have A3 := Az_.mk A30
 clear A30
 replace H := Option.bind_eq_some_iff.mp H
 obtain ⟨t259, A40, H⟩ := H
 replace H : (if t258 = true then (if t259 = true then (some 0) else (some (-1))) else (if t259 = true then (some 1) else (if a0 < a1 then (some (-1)) else (if a0 > a1 then (some 1) else (some 0))))) = some r := H
 have A4 := Az_.mk A40
 clear A40
 by_cases c5 : t258 = true
 ·subst c5
  have H1 : (if t259 = true then (some 0) else (some (-1))) = some r := by rw [if_pos rfl] at H; exact H
  clear H
  have H := H1
  clear H1
  by_cases c6 : t259 = true
  ·subst c6
   have H1 : (some 0) = some r := by rw [if_pos rfl] at H; exact H
   clear H
   have H := H1
   clear H1
   obtain rfl := Option.some.inj H
   go_enter Try.func76, Try.ntmps76
   go_wp2_with (first | ((with_reducible refine yah_ (f := 106) rfl ?_); refine goesL_ (some 8) rfl rfl Try.func106 (by kernel_rfl) rfl #[.int .i64 a0] rfl (by (try simp only [List.map_toArray, List.map_cons, List.map_nil]); first | done | rfl | (simp only [List.length_drop, List.length_take]; rfl)) ?_; (with_reducible refine (cmp_isNaN_int.calls a0 true _ A3.out).mono ?_); rintro e w' ⟨rfl, ⟨nd, rfl⟩⟩; refine ⟨_, rfl, ?_⟩) | ((with_reducible refine yah_ (f := 106) rfl ?_); refine goesL_ (some 10) rfl rfl Try.func106 (by kernel_rfl) rfl #[.int .i64 a1] rfl (by (try simp only [List.map_toArray, List.map_cons, List.map_nil]); first | done | rfl | (simp only [List.length_drop, List.length_take]; rfl)) ?_; (with_reducible refine (cmp_isNaN_int.calls a1 true _ A4.out).mono ?_); rintro e w' ⟨rfl, ⟨nd, rfl⟩⟩; refine ⟨_, rfl, ?_⟩))
   go_ret
   exact ⟨by first | rfl | (simp; done) | (simp [*]; done), by repeat (first | exact Drawn0.refl _ | apply Drawn0.step)⟩
  ·replace c6 := Bool.eq_false_iff.mpr c6
   subst c6
   have H1 : (some (-1)) = some r := by rw [if_neg (show ¬ (false = true) by decide)] at H; exact H
   clear H
   have H := H1
   clear H1
   obtain rfl := Option.some.inj H
   go_enter Try.func76, Try.ntmps76
   go_wp2_with (first | ((with_reducible refine yah_ (f := 106) rfl ?_); refine goesL_ (some 8) rfl rfl Try.func106 (by kernel_rfl) rfl #[.int .i64 a0] rfl (by (try simp only [List.map_toArray, List.map_cons, List.map_nil]); first | done | rfl | (simp only [List.length_drop, List.length_take]; rfl)) ?_; (with_reducible refine (cmp_isNaN_int.calls a0 true _ A3.out).mono ?_); rintro e w' ⟨rfl, ⟨nd, rfl⟩⟩; refine ⟨_, rfl, ?_⟩) | ((with_reducible refine yah_ (f := 106) rfl ?_); refine goesL_ (some 10) rfl rfl Try.func106 (by kernel_rfl) rfl #[.int .i64 a1] rfl (by (try simp only [List.map_toArray, List.map_cons, List.map_nil]); first | done | rfl | (simp only [List.length_drop, List.length_take]; rfl)) ?_; (with_reducible refine (cmp_isNaN_int.calls a1 false _ A4.out).mono ?_); rintro e w' ⟨rfl, ⟨nd, rfl⟩⟩; refine ⟨_, rfl, ?_⟩))
   go_ret
   exact ⟨by first | rfl | (simp; done) | (simp [*]; done), by repeat (first | exact Drawn0.refl _ | apply Drawn0.step)⟩
 ·replace c5 := Bool.eq_false_iff.mpr c5
  subst c5
  have H1 : (if t259 = true then (some 1) else (if a0 < a1 then (some (-1)) else (if a0 > a1 then (some 1) else (some 0)))) = some r := by rw [if_neg (show ¬ (false = true) by decide)] at H; exact H
  clear H
  have H := H1
  clear H1
  by_cases c7 : t259 = true
  ·subst c7
   have H1 : (some 1) = some r := by rw [if_pos rfl] at H; exact H
   clear H
   have H := H1
   clear H1
   obtain rfl := Option.some.inj H
   go_enter Try.func76, Try.ntmps76
   go_wp2_with (first | ((with_reducible refine yah_ (f := 106) rfl ?_); refine goesL_ (some 8) rfl rfl Try.func106 (by kernel_rfl) rfl #[.int .i64 a0] rfl (by (try simp only [List.map_toArray, List.map_cons, List.map_nil]); first | done | rfl | (simp only [List.length_drop, List.length_take]; rfl)) ?_; (with_reducible refine (cmp_isNaN_int.calls a0 false _ A3.out).mono ?_); rintro e w' ⟨rfl, ⟨nd, rfl⟩⟩; refine ⟨_, rfl, ?_⟩) | ((with_reducible refine yah_ (f := 106) rfl ?_); refine goesL_ (some 10) rfl rfl Try.func106 (by kernel_rfl) rfl #[.int .i64 a1] rfl (by (try simp only [List.map_toArray, List.map_cons, List.map_nil]); first | done | rfl | (simp only [List.length_drop, List.length_take]; rfl)) ?_; (with_reducible refine (cmp_isNaN_int.calls a1 true _ A4.out).mono ?_); rintro e w' ⟨rfl, ⟨nd, rfl⟩⟩; refine ⟨_, rfl, ?_⟩))
   go_ret
   exact ⟨by first | rfl | (simp; done) | (simp [*]; done), by repeat (first | exact Drawn0.refl _ | apply Drawn0.step)⟩
  ·replace c7 := Bool.eq_false_iff.mpr c7
   subst c7
   have H1 : (if a0 < a1 then (some (-1)) else (if a0 > a1 then (some 1) else (some 0))) = some r := by rw [if_neg (show ¬ (false = true) by decide)] at H; exact H
   clear H
   have H := H1
   clear H1
   by_cases c8 : a0 < a1
   ·rw [if_pos c8] at H
    have c8b0 : decide (a0 < a1) = true := decide_eq_true c8
    clear c8
    obtain rfl := Option.some.inj H
    go_enter Try.func76, Try.ntmps76
    go_wp2_with (first | ((with_reducible refine yah_ (f := 106) rfl ?_); refine goesL_ (some 8) rfl rfl Try.func106 (by kernel_rfl) rfl #[.int .i64 a0] rfl (by (try simp only [List.map_toArray, List.map_cons, List.map_nil]); first | done | rfl | (simp only [List.length_drop, List.length_take]; rfl)) ?_; (with_reducible refine (cmp_isNaN_int.calls a0 false _ A3.out).mono ?_); rintro e w' ⟨rfl, ⟨nd, rfl⟩⟩; refine ⟨_, rfl, ?_⟩) | ((with_reducible refine yah_ (f := 106) rfl ?_); refine goesL_ (some 10) rfl rfl Try.func106 (by kernel_rfl) rfl #[.int .i64 a1] rfl (by (try simp only [List.map_toArray, List.map_cons, List.map_nil]); first | done | rfl | (simp only [List.length_drop, List.length_take]; rfl)) ?_; (with_reducible refine (cmp_isNaN_int.calls a1 false _ A4.out).mono ?_); rintro e w' ⟨rfl, ⟨nd, rfl⟩⟩; refine ⟨_, rfl, ?_⟩))
    go_ret
    exact ⟨by first | rfl | (simp; done) | (simp [*]; done), by repeat (first | exact Drawn0.refl _ | apply Drawn0.step)⟩
   ·rw [if_neg c8] at H
    have c8b0 : decide (a0 < a1) = false := decide_eq_false c8
    clear c8
    by_cases c9 : a0 > a1
    ·rw [if_pos c9] at H
     have c9b0 : decide (a1 < a0) = true := decide_eq_true c9
     clear c9
     obtain rfl := Option.some.inj H
     go_enter Try.func76, Try.ntmps76
     go_wp2_with (first | ((with_reducible refine yah_ (f := 106) rfl ?_); refine goesL_ (some 8) rfl rfl Try.func106 (by kernel_rfl) rfl #[.int .i64 a0] rfl (by (try simp only [List.map_toArray, List.map_cons, List.map_nil]); first | done | rfl | (simp only [List.length_drop, List.length_take]; rfl)) ?_; (with_reducible refine (cmp_isNaN_int.calls a0 false _ A3.out).mono ?_); rintro e w' ⟨rfl, ⟨nd, rfl⟩⟩; refine ⟨_, rfl, ?_⟩) | ((with_reducible refine yah_ (f := 106) rfl ?_); refine goesL_ (some 10) rfl rfl Try.func106 (by kernel_rfl) rfl #[.int .i64 a1] rfl (by (try simp only [List.map_toArray, List.map_cons, List.map_nil]); first | done | rfl | (simp only [List.length_drop, List.length_take]; rfl)) ?_; (with_reducible refine (cmp_isNaN_int.calls a1 false _ A4.out).mono ?_); rintro e w' ⟨rfl, ⟨nd, rfl⟩⟩; refine ⟨_, rfl, ?_⟩))
     go_ret
     exact ⟨by first | rfl | (simp; done) | (simp [*]; done), by repeat (first | exact Drawn0.refl _ | apply Drawn0.step)⟩
    ·rw [if_neg c9] at H
     have c9b0 : decide (a1 < a0) = false := decide_eq_false c9
     clear c9
     obtain rfl := Option.some.inj H
     go_enter Try.func76, Try.ntmps76
     go_wp2_with (first | ((with_reducible refine yah_ (f := 106) rfl ?_); refine goesL_ (some 8) rfl rfl Try.func106 (by kernel_rfl) rfl #[.int .i64 a0] rfl (by (try simp only [List.map_toArray, List.map_cons, List.map_nil]); first | done | rfl | (simp only [List.length_drop, List.length_take]; rfl)) ?_; (with_reducible refine (cmp_isNaN_int.calls a0 false _ A3.out).mono ?_); rintro e w' ⟨rfl, ⟨nd, rfl⟩⟩; refine ⟨_, rfl, ?_⟩) | ((with_reducible refine yah_ (f := 106) rfl ?_); refine goesL_ (some 10) rfl rfl Try.func106 (by kernel_rfl) rfl #[.int .i64 a1] rfl (by (try simp only [List.map_toArray, List.map_cons, List.map_nil]); first | done | rfl | (simp only [List.length_drop, List.length_take]; rfl)) ?_; (with_reducible refine (cmp_isNaN_int.calls a1 false _ A4.out).mono ?_); rintro e w' ⟨rfl, ⟨nd, rfl⟩⟩; refine ⟨_, rfl, ?_⟩))
     go_ret
     exact ⟨by first | rfl | (simp; done) | (simp [*]; done), by repeat (first | exact Drawn0.refl _ | apply Drawn0.step)⟩
end
section
attribute [local go_sem] yaq_ yao_ max_two min_two yal_ yak_ yap_ yan_
def cmp_Or_int.l0 : Nat → Int → List Int → Int → Int → Option (Int)
 | 0, _, _, _, _ => none
 | k + 1, x3, x6, x7, x8 => if x8 < x7 then (if 0 ≤ x8 then (if x8 < (x6.length : Int) then (if (rd x6 x8) = x3 then (cmp_Or_int.l0 k x3 x6 x7 (wrap64 (x8 + 1))) else (some (rd x6 x8))) else (none)) else (none)) else (some x3)
def cmp_Or_int.f (k : Nat) (l0 : List Int) : Option (Int) := cmp_Or_int.l0 k 0 l0 (l0.length : Int) 0
set_option maxHeartbeats 8000000 in
set_option maxRecDepth 100000 in
theorem cmp_Or_int.calls (k : Nat) (A0 : Option Addr) (c0 : Nat) (l0 : List Int) (r : Int) (w : World) (hr0 : Kd.C (Kd.int .i64) w A0 l0.length l0) (hc0 : l0.length ≤ c0) (h : cmp_Or_int.f k l0 = some r) :
  Calls Try.prog 77 #[.slice A0 l0.length c0] w fun e w' => e = .returned (.int .i64 r) ∧ Drawn0 w w' := by
 have HR0 := Az_.mk hr0
 have HC0 := Az_.mk hc0
 clear hr0 hc0
 have H : (cmp_Or_int.l0 k 0 l0 (l0.length : Int) 0) = some r := h
 clear h
 have H' := Az_.mk H
 clear H
 go_enter Try.func77, Try.ntmps77
 go_wp2
 go_loopg [8] k (fun kq v8 w' => ∃ (x8_1 : Int), v8 = .int .i64 x8_1 ∧ Az_ (cmp_Or_int.l0 kq 0 l0 (l0.length : Int) x8_1 = some r) ∧ Az_ (kq ≤ k) ∧ Drawn0 w w')
 case atStart => exact ⟨(0), (by first | rfl | (simp; done) | (simp [*]; done)), H', ⟨Nat.le_refl _⟩, by repeat (first | exact Drawn0.refl _ | apply Drawn0.step)⟩
 case round =>
  clear H'
  obtain ⟨x8_1, rfl, HA, HK1, ⟨m1, rfl⟩⟩ := hrel
  cases gk with
  | zero => exact absurd HA.out (by simp [cmp_Or_int.l0])
  | succ k1 =>
   have H := HA.out
   clear HA
   simp only [cmp_Or_int.l0] at H
   by_cases c2 : x8_1 < (l0.length : Int)
   ·rw [if_pos c2] at H
    have c2b0 : decide (x8_1 < (l0.length : Int)) = true := decide_eq_true c2
    clear c2
    by_cases c3 : 0 ≤ x8_1
    ·rw [if_pos c3] at H
     have c3b0 : decide (0 ≤ x8_1) = true := decide_eq_true c3
     clear c3
     by_cases c4 : x8_1 < (l0.length : Int)
     ·rw [if_pos c4] at H
      have c4b0 : decide (x8_1 < (l0.length : Int)) = true := decide_eq_true c4
      clear c4
      by_cases c5 : (rd l0 x8_1) = 0
      ·rw [if_pos c5] at H
       have c5b0 : ((rd l0 x8_1) == 0) = true := beq_iff_eq.mpr c5
       have c5b1 : ((rd l0 x8_1) != 0) = false := bne_eq_false_iff_eq.mpr c5
       clear c5
       have H' := Az_.mk H
       clear H
       have p260 : 0 ≤ (x8_1 : Int) := of_decide_eq_true (by first | (with_reducible assumption) | assumption)
       have q260 : x8_1 < (l0.length : Int) := of_decide_eq_true (by first | (with_reducible assumption) | assumption)
       obtain ⟨ad260, e260, hx260_0⟩ := Kd.at_int HR0.out x8_1 p260 q260
       cases e260
       replace p260 := eq_true p260
       replace q260 := eq_true q260
       go_wp2
       go_roundg k1
       case measure => have := HK1.out; omega
       case rel => exact ⟨(wrap64 (x8_1 + 1)), (by first | rfl | (simp; done) | (simp [*]; done)), H', ⟨by have := HK1.out; omega⟩, by repeat (first | exact Drawn0.refl _ | apply Drawn0.step)⟩
      ·rw [if_neg c5] at H
       have c5b0 : ((rd l0 x8_1) == 0) = false := beq_eq_false_iff_ne.mpr c5
       have c5b1 : ((rd l0 x8_1) != 0) = true := bne_iff_ne.mpr c5
       obtain rfl := Option.some.inj H
       have p260 : 0 ≤ (x8_1 : Int) := of_decide_eq_true (by first | (with_reducible assumption) | assumption)
       have q260 : x8_1 < (l0.length : Int) := of_decide_eq_true (by first | (with_reducible assumption) | assumption)
       obtain ⟨ad260, e260, hx260_0⟩ := Kd.at_int HR0.out x8_1 p260 q260
       cases e260
       replace p260 := eq_true p260
       replace q260 := eq_true q260
       go_wp2
       go_ret
       exact ⟨by first | rfl | (simp; done) | (simp [*]; done), by repeat (first | exact Drawn0.refl _ | apply Drawn0.step)⟩
     ·rw [if_neg c4] at H
      exact absurd H (by simp)
    ·rw [if_neg c3] at H
     exact absurd H (by simp)
   ·rw [if_neg c2] at H
    have c2b0 : decide (x8_1 < (l0.length : Int)) = false := decide_eq_false c2
    clear c2
    obtain rfl := Option.some.inj H
    go_wp2
    go_ret
    exact ⟨by first | rfl | (simp; done) | (simp [*]; done), by repeat (first | exact Drawn0.refl _ | apply Drawn0.step)⟩
end
section
def cmpI (a b : Int) : Int := if a < b then -1 else if a > b then 1 else 0
def orI (a b c : Int) : Int := if a = 0 then (if b = 0 then c else b) else a
mutual
def cmpT : S30 → S30 → Int
 | ⟨f, l⟩, ⟨g, m⟩ => if f < 0 ∨ g < 0 then (if f < 0 ∧ g < 0 then cmpI g f else cmpI f g) else orI (cmpI f g) (cmpI l.length m.length) (cmpTs l m)
def cmpTs : List S30 → List S30 → Int
 | [], [] => 0
 | [], _ :: _ => -1
 | _ :: _, [] => 1
 | x :: l, y :: m => if cmpT x y = 0 then cmpTs l m else cmpT x y
end
theorem isNaN_f (a : Int) : cmp_isNaN_int.f a = some false := by simp [cmp_isNaN_int.f]
theorem cmpI_f (a b : Int) : cmp_Compare_int.f a b = some (cmpI a b) := by
 simp only [cmp_Compare_int.f, isNaN_f, Option.bind_some, cmpI]
 simp
 split
 ·rfl
 ·split <;> rfl
theorem orI_f (a b c : Int) : Ev (fun k => cmp_Or_int.f k [a, b, c]) (orI a b c) := by
 refine ⟨4, fun k hk => ?_⟩
 obtain ⟨k, rfl⟩ : ∃ m, k = m + 4 := ⟨k - 4, by omega⟩
 simp only [cmp_Or_int.f, cmp_Or_int.l0, rd, List.length_cons, List.length_nil, orI, wrap64]
 simp
 by_cases ha : a = 0
 ·simp [ha]
  by_cases hb : b = 0
  ·simp [hb]
   by_cases hc : c = 0
   ·simp [hc]
   ·simp [hc]
  ·simp [hb]
 ·simp [ha]
def term_Compare.f (a0_0 : Int) (l0_1 : List S30) (a1_0 : Int) (l1_1 : List S30) : Option Int := some (cmpT ⟨a0_0, l0_1⟩ ⟨a1_0, l1_1⟩)
set_option maxHeartbeats 4000000 in
set_option maxRecDepth 100000 in
theorem Compare_r5 {id : Nat} {a : Act} {w : World} {Q : Exit → Act → World → Prop} {f g c1 c2 c3 r : Int} {A B : Option Addr} {nl nm c e g0 g1 : Nat}
  (hr : regionOk #[{ dst := some 31, op := Op.fieldAddr 30 (Operand.tmp 2) 0, type := 0, pos := "term.go:32", after := #[], guard := none }, { dst := some 32, op := Op.load 3 (Operand.tmp 31), type := 3, pos := "term.go:32", after := #[{ on := 0, ground := Ground.data }], guard := none }, { dst := some 33, op := Op.fieldAddr 30 (Operand.tmp 3) 0, type := 0, pos := "term.go:32", after := #[], guard := none }, { dst := some 34, op := Op.load 3 (Operand.tmp 33), type := 3, pos := "term.go:32", after := #[{ on := 2, ground := Ground.data }], guard := none }, { dst := some 35, op := Op.call { callee := Callee.value (Operand.func 76), args := #[Operand.tmp 32, Operand.tmp 34], argTypes := #[3, 3] }, type := 3, pos := "term.go:32", after := #[{ on := 1, ground := Ground.data }, { on := 3, ground := Ground.data }], guard := none }, { dst := some 36, op := Op.fieldAddr 30 (Operand.tmp 2) 1, type := 0, pos := "term.go:32", after := #[], guard := none }, { dst := some 37, op := Op.load 28 (Operand.tmp 36), type := 28, pos := "term.go:32", after := #[{ on := 5, ground := Ground.data }], guard := none }, { dst := some 38, op := Op.call { callee := Callee.builtin Builtin.len, args := #[Operand.tmp 37], argTypes := #[28] }, type := 3, pos := "term.go:32", after := #[{ on := 6, ground := Ground.data }], guard := none }, { dst := some 39, op := Op.fieldAddr 30 (Operand.tmp 3) 1, type := 0, pos := "term.go:32", after := #[], guard := none }, { dst := some 40, op := Op.load 28 (Operand.tmp 39), type := 28, pos := "term.go:32", after := #[{ on := 8, ground := Ground.data }], guard := none }, { dst := some 41, op := Op.call { callee := Callee.builtin Builtin.len, args := #[Operand.tmp 40], argTypes := #[28] }, type := 3, pos := "term.go:32", after := #[{ on := 9, ground := Ground.data }], guard := none }, { dst := some 42, op := Op.call { callee := Callee.value (Operand.func 76), args := #[Operand.tmp 38, Operand.tmp 41], argTypes := #[3, 3] }, type := 3, pos := "term.go:32", after := #[{ on := 7, ground := Ground.data }, { on := 10, ground := Ground.data }, { on := 4, ground := Ground.chain }], guard := none }, { dst := some 43, op := Op.fieldAddr 30 (Operand.tmp 2) 1, type := 0, pos := "term.go:32", after := #[], guard := none }, { dst := some 44, op := Op.load 28 (Operand.tmp 43), type := 28, pos := "term.go:32", after := #[{ on := 12, ground := Ground.data }], guard := none }, { dst := some 45, op := Op.fieldAddr 30 (Operand.tmp 3) 1, type := 0, pos := "term.go:32", after := #[], guard := none }, { dst := some 46, op := Op.load 28 (Operand.tmp 45), type := 28, pos := "term.go:32", after := #[{ on := 14, ground := Ground.data }], guard := none }, { dst := some 47, op := Op.call { callee := Callee.value (Operand.func 78), args := #[Operand.tmp 44, Operand.tmp 46, Operand.func 36], argTypes := #[28, 28, 49] }, type := 3, pos := "term.go:32", after := #[{ on := 13, ground := Ground.data }, { on := 15, ground := Ground.data }, { on := 11, ground := Ground.chain }], guard := none }, { dst := some 48, op := Op.buildSlice 25 3 #[(0, Operand.tmp 35), (1, Operand.tmp 42), (2, Operand.tmp 47)], type := 25, pos := "term.go:32", after := #[{ on := 4, ground := Ground.data }, { on := 11, ground := Ground.data }, { on := 16, ground := Ground.data }], guard := none }, { dst := some 49, op := Op.call { callee := Callee.value (Operand.func 77), args := #[Operand.tmp 48], argTypes := #[25] }, type := 3, pos := "term.go:32", after := #[{ on := 17, ground := Ground.data }, { on := 16, ground := Ground.chain }], guard := none }, { dst := some 4, op := Op.assign (Operand.tmp 49), type := 3, pos := "term.go:32", after := #[{ on := 18, ground := Ground.data }, { on := 18, ground := Ground.chain }, { on := 0, ground := Ground.phase }, { on := 1, ground := Ground.phase }, { on := 2, ground := Ground.phase }, { on := 3, ground := Ground.phase }, { on := 4, ground := Ground.phase }, { on := 5, ground := Ground.phase }, { on := 6, ground := Ground.phase }, { on := 7, ground := Ground.phase }, { on := 8, ground := Ground.phase }, { on := 9, ground := Ground.phase }, { on := 10, ground := Ground.phase }, { on := 11, ground := Ground.phase }, { on := 12, ground := Ground.phase }, { on := 13, ground := Ground.phase }, { on := 14, ground := Ground.phase }, { on := 15, ground := Ground.phase }, { on := 16, ground := Ground.phase }, { on := 17, ground := Ground.phase }, { on := 18, ground := Ground.phase }], guard := none }] a.tmps.size = true)
  (hT2 : a.tmps.getD 2 undef = .pointer (some ⟨g0, 0, none⟩)) (hX2 : w.heap[g0]? = some (.cells #[.int .i64 f, .slice A nl c] 30 (0, 0)))
  (hT3 : a.tmps.getD 3 undef = .pointer (some ⟨g1, 0, none⟩)) (hX3 : w.heap[g1]? = some (.cells #[.int .i64 g, .slice B nm e] 30 (0, 0)))
  (hF4 : ∀ w1, Below w.heap.size w w1 → Calls Try.prog 76 #[.int .i64 f, .int .i64 g] w1 fun e w2 => e = .returned (.int .i64 c1) ∧ Below w1.heap.size w1 w2)
  (hF11 : ∀ w1, Below w.heap.size w w1 → Calls Try.prog 76 #[.int .i64 (nl : Int), .int .i64 (nm : Int)] w1 fun e w2 => e = .returned (.int .i64 c2) ∧ Below w1.heap.size w1 w2)
  (hF16 : ∀ w1, Below w.heap.size w w1 → Calls Try.prog 78 #[.slice A nl c, .slice B nm e, .func (.func 36) #[] #[]] w1 fun e w2 => e = .returned (.int .i64 c3) ∧ Below w1.heap.size w1 w2)
  (hO : ∀ (w1 : World) (gs : Nat), w1.heap[gs]? = some (.cells #[.int .i64 c1, .int .i64 c2, .int .i64 c3] 3 (0, 0)) → Calls Try.prog 77 #[.slice (some ⟨gs, 0, none⟩) 3 3] w1 fun x w2 => x = .returned (.int .i64 r) ∧ Below w1.heap.size w1 w2) (hle : nl ≤ c) (hme : nm ≤ e)
  (hK : ∀ v w', Below w.heap.size w w' → v 19 = .int .i64 r → Q .normal { tmps := layL [some 31, some 32, some 33, some 34, some 35, some 36, some 37, some 38, some 39, some 40, some 41, some 42, some 43, some 44, some 45, some 46, some 47, some 48, some 49, some 4] 0 v a.tmps, defers := a.defers } w') :
  (Code.region id #[{ dst := some 31, op := Op.fieldAddr 30 (Operand.tmp 2) 0, type := 0, pos := "term.go:32", after := #[], guard := none }, { dst := some 32, op := Op.load 3 (Operand.tmp 31), type := 3, pos := "term.go:32", after := #[{ on := 0, ground := Ground.data }], guard := none }, { dst := some 33, op := Op.fieldAddr 30 (Operand.tmp 3) 0, type := 0, pos := "term.go:32", after := #[], guard := none }, { dst := some 34, op := Op.load 3 (Operand.tmp 33), type := 3, pos := "term.go:32", after := #[{ on := 2, ground := Ground.data }], guard := none }, { dst := some 35, op := Op.call { callee := Callee.value (Operand.func 76), args := #[Operand.tmp 32, Operand.tmp 34], argTypes := #[3, 3] }, type := 3, pos := "term.go:32", after := #[{ on := 1, ground := Ground.data }, { on := 3, ground := Ground.data }], guard := none }, { dst := some 36, op := Op.fieldAddr 30 (Operand.tmp 2) 1, type := 0, pos := "term.go:32", after := #[], guard := none }, { dst := some 37, op := Op.load 28 (Operand.tmp 36), type := 28, pos := "term.go:32", after := #[{ on := 5, ground := Ground.data }], guard := none }, { dst := some 38, op := Op.call { callee := Callee.builtin Builtin.len, args := #[Operand.tmp 37], argTypes := #[28] }, type := 3, pos := "term.go:32", after := #[{ on := 6, ground := Ground.data }], guard := none }, { dst := some 39, op := Op.fieldAddr 30 (Operand.tmp 3) 1, type := 0, pos := "term.go:32", after := #[], guard := none }, { dst := some 40, op := Op.load 28 (Operand.tmp 39), type := 28, pos := "term.go:32", after := #[{ on := 8, ground := Ground.data }], guard := none }, { dst := some 41, op := Op.call { callee := Callee.builtin Builtin.len, args := #[Operand.tmp 40], argTypes := #[28] }, type := 3, pos := "term.go:32", after := #[{ on := 9, ground := Ground.data }], guard := none }, { dst := some 42, op := Op.call { callee := Callee.value (Operand.func 76), args := #[Operand.tmp 38, Operand.tmp 41], argTypes := #[3, 3] }, type := 3, pos := "term.go:32", after := #[{ on := 7, ground := Ground.data }, { on := 10, ground := Ground.data }, { on := 4, ground := Ground.chain }], guard := none }, { dst := some 43, op := Op.fieldAddr 30 (Operand.tmp 2) 1, type := 0, pos := "term.go:32", after := #[], guard := none }, { dst := some 44, op := Op.load 28 (Operand.tmp 43), type := 28, pos := "term.go:32", after := #[{ on := 12, ground := Ground.data }], guard := none }, { dst := some 45, op := Op.fieldAddr 30 (Operand.tmp 3) 1, type := 0, pos := "term.go:32", after := #[], guard := none }, { dst := some 46, op := Op.load 28 (Operand.tmp 45), type := 28, pos := "term.go:32", after := #[{ on := 14, ground := Ground.data }], guard := none }, { dst := some 47, op := Op.call { callee := Callee.value (Operand.func 78), args := #[Operand.tmp 44, Operand.tmp 46, Operand.func 36], argTypes := #[28, 28, 49] }, type := 3, pos := "term.go:32", after := #[{ on := 13, ground := Ground.data }, { on := 15, ground := Ground.data }, { on := 11, ground := Ground.chain }], guard := none }, { dst := some 48, op := Op.buildSlice 25 3 #[(0, Operand.tmp 35), (1, Operand.tmp 42), (2, Operand.tmp 47)], type := 25, pos := "term.go:32", after := #[{ on := 4, ground := Ground.data }, { on := 11, ground := Ground.data }, { on := 16, ground := Ground.data }], guard := none }, { dst := some 49, op := Op.call { callee := Callee.value (Operand.func 77), args := #[Operand.tmp 48], argTypes := #[25] }, type := 3, pos := "term.go:32", after := #[{ on := 17, ground := Ground.data }, { on := 16, ground := Ground.chain }], guard := none }, { dst := some 4, op := Op.assign (Operand.tmp 49), type := 3, pos := "term.go:32", after := #[{ on := 18, ground := Ground.data }, { on := 18, ground := Ground.chain }, { on := 0, ground := Ground.phase }, { on := 1, ground := Ground.phase }, { on := 2, ground := Ground.phase }, { on := 3, ground := Ground.phase }, { on := 4, ground := Ground.phase }, { on := 5, ground := Ground.phase }, { on := 6, ground := Ground.phase }, { on := 7, ground := Ground.phase }, { on := 8, ground := Ground.phase }, { on := 9, ground := Ground.phase }, { on := 10, ground := Ground.phase }, { on := 11, ground := Ground.phase }, { on := 12, ground := Ground.phase }, { on := 13, ground := Ground.phase }, { on := 14, ground := Ground.phase }, { on := 15, ground := Ground.phase }, { on := 16, ground := Ground.phase }, { on := 17, ground := Ground.phase }, { on := 18, ground := Ground.phase }], guard := none }] true).wp Try.prog Q a w := by
 have hmx : Try.prog.follows .mixedOrders = true := by kernel_rfl
 refine region_detR 20 hmx hr (by kernel_rfl) ?_
 refine DetR.is (o := { dst := some 31, op := Op.fieldAddr 30 (Operand.tmp 2) 0, type := 0, pos := "term.go:32", after := #[], guard := none }) (u := ?ux1) rfl (by decide) (fun T w' hb hd hB K hK => ?sx1) ?rx1
 case sx1 =>
  have e2 := (hB 2 (by kernel_rfl)).trans hT2
  have q2_0 : w'.cell? ⟨g0, 0, none⟩ = some (.int .i64 f) := (yaa_ (kB_ hX2 hb) 0).trans rfl
  have q2_1 : w'.cell? ⟨g0, 1, none⟩ = some (.slice A nl c) := (yaa_ (kB_ hX2 hb) 1).trans rfl
  rw [if_pos (yac_ _ rfl)]
  clear hd hB
  go_simp
  exact hK _ (Below.refl _ _)
 refine DetR.is (o := { dst := some 32, op := Op.load 3 (Operand.tmp 31), type := 3, pos := "term.go:32", after := #[{ on := 0, ground := Ground.data }], guard := none }) (u := ?ux2) rfl (by decide) (fun T w' hb hd hB K hK => ?sx2) ?rx2
 case sx2 =>
  have e31 := hd 0 31 _ (by decide) (by kernel_rfl) rfl rfl
  replace e31 : T.getD 31 undef = _ := e31
  rw [if_pos (yac_ _ rfl)]
  have q2_0 : w'.cell? ⟨g0, 0, none⟩ = some (.int .i64 f) := (yaa_ (kB_ hX2 hb) 0).trans rfl
  have q2_1 : w'.cell? ⟨g0, 1, none⟩ = some (.slice A nl c) := (yaa_ (kB_ hX2 hb) 1).trans rfl
  have q3_0 : w'.cell? ⟨g1, 0, none⟩ = some (.int .i64 g) := (yaa_ (kB_ hX3 hb) 0).trans rfl
  have q3_1 : w'.cell? ⟨g1, 1, none⟩ = some (.slice B nm e) := (yaa_ (kB_ hX3 hb) 1).trans rfl
  clear hd hB
  go_simp
  exact hK _ (Below.refl _ _)
 refine DetR.is (o := { dst := some 33, op := Op.fieldAddr 30 (Operand.tmp 3) 0, type := 0, pos := "term.go:32", after := #[], guard := none }) (u := ?ux3) rfl (by decide) (fun T w' hb hd hB K hK => ?sx3) ?rx3
 case sx3 =>
  have e3 := (hB 3 (by kernel_rfl)).trans hT3
  have q3_0 : w'.cell? ⟨g1, 0, none⟩ = some (.int .i64 g) := (yaa_ (kB_ hX3 hb) 0).trans rfl
  have q3_1 : w'.cell? ⟨g1, 1, none⟩ = some (.slice B nm e) := (yaa_ (kB_ hX3 hb) 1).trans rfl
  rw [if_pos (yac_ _ rfl)]
  clear hd hB
  go_simp
  exact hK _ (Below.refl _ _)
 refine DetR.is (o := { dst := some 34, op := Op.load 3 (Operand.tmp 33), type := 3, pos := "term.go:32", after := #[{ on := 2, ground := Ground.data }], guard := none }) (u := ?ux4) rfl (by decide) (fun T w' hb hd hB K hK => ?sx4) ?rx4
 case sx4 =>
  have e33 := hd 2 33 _ (by decide) (by kernel_rfl) rfl rfl
  replace e33 : T.getD 33 undef = _ := e33
  rw [if_pos (yac_ _ rfl)]
  have q2_0 : w'.cell? ⟨g0, 0, none⟩ = some (.int .i64 f) := (yaa_ (kB_ hX2 hb) 0).trans rfl
  have q2_1 : w'.cell? ⟨g0, 1, none⟩ = some (.slice A nl c) := (yaa_ (kB_ hX2 hb) 1).trans rfl
  have q3_0 : w'.cell? ⟨g1, 0, none⟩ = some (.int .i64 g) := (yaa_ (kB_ hX3 hb) 0).trans rfl
  have q3_1 : w'.cell? ⟨g1, 1, none⟩ = some (.slice B nm e) := (yaa_ (kB_ hX3 hb) 1).trans rfl
  clear hd hB
  go_simp
  exact hK _ (Below.refl _ _)
 refine DetR.is (o := { dst := some 35, op := Op.call { callee := Callee.value (Operand.func 76), args := #[Operand.tmp 32, Operand.tmp 34], argTypes := #[3, 3] }, type := 3, pos := "term.go:32", after := #[{ on := 1, ground := Ground.data }, { on := 3, ground := Ground.data }], guard := none }) (u := ?ux5) rfl (by decide) (fun T w' hb hd hB K hK => ?sx5) ?rx5
 case sx5 =>
  have e32 := hd 1 32 _ (by decide) (by kernel_rfl) rfl rfl
  replace e32 : T.getD 32 undef = _ := e32
  have e34 := hd 3 34 _ (by decide) (by kernel_rfl) rfl rfl
  replace e34 : T.getD 34 undef = _ := e34
  rw [if_pos (yac_ _ rfl)]
  have hcl := hF4 w' hb
  clear hd hB
  go_simp
  go_at_call 76
  refine hcl.mono ?_
  rintro e w2 ⟨rfl, h2⟩
  exact hK _ h2
 refine DetR.is (o := { dst := some 36, op := Op.fieldAddr 30 (Operand.tmp 2) 1, type := 0, pos := "term.go:32", after := #[], guard := none }) (u := ?ux6) rfl (by decide) (fun T w' hb hd hB K hK => ?sx6) ?rx6
 case sx6 =>
  have e2 := (hB 2 (by kernel_rfl)).trans hT2
  have q2_0 : w'.cell? ⟨g0, 0, none⟩ = some (.int .i64 f) := (yaa_ (kB_ hX2 hb) 0).trans rfl
  have q2_1 : w'.cell? ⟨g0, 1, none⟩ = some (.slice A nl c) := (yaa_ (kB_ hX2 hb) 1).trans rfl
  rw [if_pos (yac_ _ rfl)]
  clear hd hB
  go_simp
  exact hK _ (Below.refl _ _)
 refine DetR.is (o := { dst := some 37, op := Op.load 28 (Operand.tmp 36), type := 28, pos := "term.go:32", after := #[{ on := 5, ground := Ground.data }], guard := none }) (u := ?ux7) rfl (by decide) (fun T w' hb hd hB K hK => ?sx7) ?rx7
 case sx7 =>
  have e36 := hd 5 36 _ (by decide) (by kernel_rfl) rfl rfl
  replace e36 : T.getD 36 undef = _ := e36
  rw [if_pos (yac_ _ rfl)]
  have q2_0 : w'.cell? ⟨g0, 0, none⟩ = some (.int .i64 f) := (yaa_ (kB_ hX2 hb) 0).trans rfl
  have q2_1 : w'.cell? ⟨g0, 1, none⟩ = some (.slice A nl c) := (yaa_ (kB_ hX2 hb) 1).trans rfl
  have q3_0 : w'.cell? ⟨g1, 0, none⟩ = some (.int .i64 g) := (yaa_ (kB_ hX3 hb) 0).trans rfl
  have q3_1 : w'.cell? ⟨g1, 1, none⟩ = some (.slice B nm e) := (yaa_ (kB_ hX3 hb) 1).trans rfl
  clear hd hB
  go_simp
  exact hK _ (Below.refl _ _)
 refine DetR.is (o := { dst := some 38, op := Op.call { callee := Callee.builtin Builtin.len, args := #[Operand.tmp 37], argTypes := #[28] }, type := 3, pos := "term.go:32", after := #[{ on := 6, ground := Ground.data }], guard := none }) (u := ?ux8) rfl (by decide) (fun T w' hb hd hB K hK => ?sx8) ?rx8
 case sx8 =>
  have e37 := hd 6 37 _ (by decide) (by kernel_rfl) rfl rfl
  replace e37 : T.getD 37 undef = _ := e37
  rw [if_pos (yac_ _ rfl)]
  clear hd hB
  go_simp
  exact hK _ (Below.refl _ _)
 refine DetR.is (o := { dst := some 39, op := Op.fieldAddr 30 (Operand.tmp 3) 1, type := 0, pos := "term.go:32", after := #[], guard := none }) (u := ?ux9) rfl (by decide) (fun T w' hb hd hB K hK => ?sx9) ?rx9
 case sx9 =>
  have e3 := (hB 3 (by kernel_rfl)).trans hT3
  have q3_0 : w'.cell? ⟨g1, 0, none⟩ = some (.int .i64 g) := (yaa_ (kB_ hX3 hb) 0).trans rfl
  have q3_1 : w'.cell? ⟨g1, 1, none⟩ = some (.slice B nm e) := (yaa_ (kB_ hX3 hb) 1).trans rfl
  rw [if_pos (yac_ _ rfl)]
  clear hd hB
  go_simp
  exact hK _ (Below.refl _ _)
 refine DetR.is (o := { dst := some 40, op := Op.load 28 (Operand.tmp 39), type := 28, pos := "term.go:32", after := #[{ on := 8, ground := Ground.data }], guard := none }) (u := ?ux10) rfl (by decide) (fun T w' hb hd hB K hK => ?sx10) ?rx10
 case sx10 =>
  have e39 := hd 8 39 _ (by decide) (by kernel_rfl) rfl rfl
  replace e39 : T.getD 39 undef = _ := e39
  rw [if_pos (yac_ _ rfl)]
  have q2_0 : w'.cell? ⟨g0, 0, none⟩ = some (.int .i64 f) := (yaa_ (kB_ hX2 hb) 0).trans rfl
  have q2_1 : w'.cell? ⟨g0, 1, none⟩ = some (.slice A nl c) := (yaa_ (kB_ hX2 hb) 1).trans rfl
  have q3_0 : w'.cell? ⟨g1, 0, none⟩ = some (.int .i64 g) := (yaa_ (kB_ hX3 hb) 0).trans rfl
  have q3_1 : w'.cell? ⟨g1, 1, none⟩ = some (.slice B nm e) := (yaa_ (kB_ hX3 hb) 1).trans rfl
  clear hd hB
  go_simp
  exact hK _ (Below.refl _ _)
 refine DetR.is (o := { dst := some 41, op := Op.call { callee := Callee.builtin Builtin.len, args := #[Operand.tmp 40], argTypes := #[28] }, type := 3, pos := "term.go:32", after := #[{ on := 9, ground := Ground.data }], guard := none }) (u := ?ux11) rfl (by decide) (fun T w' hb hd hB K hK => ?sx11) ?rx11
 case sx11 =>
  have e40 := hd 9 40 _ (by decide) (by kernel_rfl) rfl rfl
  replace e40 : T.getD 40 undef = _ := e40
  rw [if_pos (yac_ _ rfl)]
  clear hd hB
  go_simp
  exact hK _ (Below.refl _ _)
 refine DetR.is (o := { dst := some 42, op := Op.call { callee := Callee.value (Operand.func 76), args := #[Operand.tmp 38, Operand.tmp 41], argTypes := #[3, 3] }, type := 3, pos := "term.go:32", after := #[{ on := 7, ground := Ground.data }, { on := 10, ground := Ground.data }, { on := 4, ground := Ground.chain }], guard := none }) (u := ?ux12) rfl (by decide) (fun T w' hb hd hB K hK => ?sx12) ?rx12
 case sx12 =>
  have e38 := hd 7 38 _ (by decide) (by kernel_rfl) rfl rfl
  replace e38 : T.getD 38 undef = _ := e38
  have e41 := hd 10 41 _ (by decide) (by kernel_rfl) rfl rfl
  replace e41 : T.getD 41 undef = _ := e41
  rw [if_pos (yac_ _ rfl)]
  have hcl := hF11 w' hb
  clear hd hB
  go_simp
  go_at_call 76
  refine hcl.mono ?_
  rintro e w2 ⟨rfl, h2⟩
  exact hK _ h2
 refine DetR.is (o := { dst := some 43, op := Op.fieldAddr 30 (Operand.tmp 2) 1, type := 0, pos := "term.go:32", after := #[], guard := none }) (u := ?ux13) rfl (by decide) (fun T w' hb hd hB K hK => ?sx13) ?rx13
 case sx13 =>
  have e2 := (hB 2 (by kernel_rfl)).trans hT2
  have q2_0 : w'.cell? ⟨g0, 0, none⟩ = some (.int .i64 f) := (yaa_ (kB_ hX2 hb) 0).trans rfl
  have q2_1 : w'.cell? ⟨g0, 1, none⟩ = some (.slice A nl c) := (yaa_ (kB_ hX2 hb) 1).trans rfl
  rw [if_pos (yac_ _ rfl)]
  clear hd hB
  go_simp
  exact hK _ (Below.refl _ _)
 refine DetR.is (o := { dst := some 44, op := Op.load 28 (Operand.tmp 43), type := 28, pos := "term.go:32", after := #[{ on := 12, ground := Ground.data }], guard := none }) (u := ?ux14) rfl (by decide) (fun T w' hb hd hB K hK => ?sx14) ?rx14
 case sx14 =>
  have e43 := hd 12 43 _ (by decide) (by kernel_rfl) rfl rfl
  replace e43 : T.getD 43 undef = _ := e43
  rw [if_pos (yac_ _ rfl)]
  have q2_0 : w'.cell? ⟨g0, 0, none⟩ = some (.int .i64 f) := (yaa_ (kB_ hX2 hb) 0).trans rfl
  have q2_1 : w'.cell? ⟨g0, 1, none⟩ = some (.slice A nl c) := (yaa_ (kB_ hX2 hb) 1).trans rfl
  have q3_0 : w'.cell? ⟨g1, 0, none⟩ = some (.int .i64 g) := (yaa_ (kB_ hX3 hb) 0).trans rfl
  have q3_1 : w'.cell? ⟨g1, 1, none⟩ = some (.slice B nm e) := (yaa_ (kB_ hX3 hb) 1).trans rfl
  clear hd hB
  go_simp
  exact hK _ (Below.refl _ _)
 refine DetR.is (o := { dst := some 45, op := Op.fieldAddr 30 (Operand.tmp 3) 1, type := 0, pos := "term.go:32", after := #[], guard := none }) (u := ?ux15) rfl (by decide) (fun T w' hb hd hB K hK => ?sx15) ?rx15
 case sx15 =>
  have e3 := (hB 3 (by kernel_rfl)).trans hT3
  have q3_0 : w'.cell? ⟨g1, 0, none⟩ = some (.int .i64 g) := (yaa_ (kB_ hX3 hb) 0).trans rfl
  have q3_1 : w'.cell? ⟨g1, 1, none⟩ = some (.slice B nm e) := (yaa_ (kB_ hX3 hb) 1).trans rfl
  rw [if_pos (yac_ _ rfl)]
  clear hd hB
  go_simp
  exact hK _ (Below.refl _ _)
 refine DetR.is (o := { dst := some 46, op := Op.load 28 (Operand.tmp 45), type := 28, pos := "term.go:32", after := #[{ on := 14, ground := Ground.data }], guard := none }) (u := ?ux16) rfl (by decide) (fun T w' hb hd hB K hK => ?sx16) ?rx16
 case sx16 =>
  have e45 := hd 14 45 _ (by decide) (by kernel_rfl) rfl rfl
  replace e45 : T.getD 45 undef = _ := e45
  rw [if_pos (yac_ _ rfl)]
  have q2_0 : w'.cell? ⟨g0, 0, none⟩ = some (.int .i64 f) := (yaa_ (kB_ hX2 hb) 0).trans rfl
  have q2_1 : w'.cell? ⟨g0, 1, none⟩ = some (.slice A nl c) := (yaa_ (kB_ hX2 hb) 1).trans rfl
  have q3_0 : w'.cell? ⟨g1, 0, none⟩ = some (.int .i64 g) := (yaa_ (kB_ hX3 hb) 0).trans rfl
  have q3_1 : w'.cell? ⟨g1, 1, none⟩ = some (.slice B nm e) := (yaa_ (kB_ hX3 hb) 1).trans rfl
  clear hd hB
  go_simp
  exact hK _ (Below.refl _ _)
 refine DetR.is (o := { dst := some 47, op := Op.call { callee := Callee.value (Operand.func 78), args := #[Operand.tmp 44, Operand.tmp 46, Operand.func 36], argTypes := #[28, 28, 49] }, type := 3, pos := "term.go:32", after := #[{ on := 13, ground := Ground.data }, { on := 15, ground := Ground.data }, { on := 11, ground := Ground.chain }], guard := none }) (u := ?ux17) rfl (by decide) (fun T w' hb hd hB K hK => ?sx17) ?rx17
 case sx17 =>
  have e44 := hd 13 44 _ (by decide) (by kernel_rfl) rfl rfl
  replace e44 : T.getD 44 undef = _ := e44
  have e46 := hd 15 46 _ (by decide) (by kernel_rfl) rfl rfl
  replace e46 : T.getD 46 undef = _ := e46
  rw [if_pos (yac_ _ rfl)]
  have hcl := hF16 w' hb
  clear hd hB
  go_simp
  go_at_call 78
  refine hcl.mono ?_
  rintro e w2 ⟨rfl, h2⟩
  exact hK _ h2
 refine DetR.cons (o := { dst := some 48, op := Op.buildSlice 25 3 #[(0, Operand.tmp 35), (1, Operand.tmp 42), (2, Operand.tmp 47)], type := 25, pos := "term.go:32", after := #[{ on := 4, ground := Ground.data }, { on := 11, ground := Ground.data }, { on := 16, ground := Ground.data }], guard := none }) (BlockTold 0 (fun g => .slice (some ⟨g, 0, none⟩) 3 3) #[.int .i64 c1, .int .i64 c2, .int .i64 c3] 3) rfl (by decide) (BlockTold.grows _ _ _ _) (fun T w' hb hd hB K hK => ?sx18) ?rx18
 case sx18 =>
  have e35 := hd 4 35 _ (by decide) (by kernel_rfl) rfl rfl
  replace e35 : T.getD 35 undef = _ := e35
  have e42 := hd 11 42 _ (by decide) (by kernel_rfl) rfl rfl
  replace e42 : T.getD 42 undef = _ := e42
  have e47 := hd 16 47 _ (by decide) (by kernel_rfl) rfl rfl
  replace e47 : T.getD 47 undef = _ := e47
  rw [if_pos (yac_ _ rfl)]
  have z35 : T[35]?.getD undef = _ := Array.getD_eq_getD_getElem?.symm.trans e35
  have z42 : T[42]?.getD undef = _ := Array.getD_eq_getD_getElem?.symm.trans e42
  have z47 : T[47]?.getD undef = _ := Array.getD_eq_getD_getElem?.symm.trans e47
  clear hd hB
  go_simp
  exact hK _ _ (bA_ (Below.refl _ _) _) ⟨w'.heap.size, rfl, Nat.zero_le _, heap_alloc_new _ _⟩
 refine DetR.is (o := { dst := some 49, op := Op.call { callee := Callee.value (Operand.func 77), args := #[Operand.tmp 48], argTypes := #[25] }, type := 3, pos := "term.go:32", after := #[{ on := 17, ground := Ground.data }, { on := 16, ground := Ground.chain }], guard := none }) (u := ?ux19) rfl (by decide) (fun T w' hb hd hB K hK => ?sx19) ?rx19
 case sx19 =>
  obtain ⟨gs, e48, hge, hbs⟩ := (hd 17 48 _ (by decide) (by kernel_rfl) rfl rfl)
  rw [if_pos (yac_ _ rfl)]
  have hcl := hO w' gs hbs
  clear hd hB
  go_simp
  go_at_call 77
  refine hcl.mono ?_
  rintro e w2 ⟨rfl, h2⟩
  exact hK _ h2
 refine DetR.is (o := { dst := some 4, op := Op.assign (Operand.tmp 49), type := 3, pos := "term.go:32", after := #[{ on := 18, ground := Ground.data }, { on := 18, ground := Ground.chain }, { on := 0, ground := Ground.phase }, { on := 1, ground := Ground.phase }, { on := 2, ground := Ground.phase }, { on := 3, ground := Ground.phase }, { on := 4, ground := Ground.phase }, { on := 5, ground := Ground.phase }, { on := 6, ground := Ground.phase }, { on := 7, ground := Ground.phase }, { on := 8, ground := Ground.phase }, { on := 9, ground := Ground.phase }, { on := 10, ground := Ground.phase }, { on := 11, ground := Ground.phase }, { on := 12, ground := Ground.phase }, { on := 13, ground := Ground.phase }, { on := 14, ground := Ground.phase }, { on := 15, ground := Ground.phase }, { on := 16, ground := Ground.phase }, { on := 17, ground := Ground.phase }, { on := 18, ground := Ground.phase }], guard := none }) (u := ?ux20) rfl (by decide) (fun T w' hb hd hB K hK => ?sx20) ?rx20
 case sx20 =>
  have e49 := hd 18 49 _ (by decide) (by kernel_rfl) rfl rfl
  replace e49 : T.getD 49 undef = _ := e49
  rw [if_pos (yac_ _ rfl)]
  clear hd hB
  go_simp
  exact hK _ (Below.refl _ _)
 refine DetR.done [some 31, some 32, some 33, some 34, some 35, some 36, some 37, some 38, some 39, some 40, some 41, some 42, some 43, some 44, some 45, some 46, some 47, some 48, some 49, some 4] (by kernel_rfl) rfl (by kernel_rfl) ?_
 intro v w' hb hv
 exact hK v w' hb (hv 19 _ (by decide) rfl)
def CmpAny (x : S30) : Prop := ∀ (y : S30) (A B : Option Addr) (c e : Nat) (w : World), k30.C w A x.f1.length x.f1 → x.f1.length ≤ c → k30.C w B y.f1.length y.f1 → y.f1.length ≤ e →
 Calls Try.prog 36 #[.agg #[.int .i64 x.f0, .slice A x.f1.length c], .agg #[.int .i64 y.f0, .slice B y.f1.length e]] w fun r w' => r = .returned (.int .i64 (cmpT x y)) ∧ Below w.heap.size w w'
theorem cmpTs_at (l m : List S30) (k : Nat) (hl : k < l.length) (hm : k < m.length) : cmpTs (l.drop k) (m.drop k) = if cmpT l[k] m[k] = 0 then cmpTs (l.drop (k + 1)) (m.drop (k + 1)) else cmpT l[k] m[k] := by
 rw [List.drop_eq_getElem_cons hl, List.drop_eq_getElem_cons hm, cmpTs]
theorem cell_lt' {w : World} {a : Addr} {v : Value} (h : w.cell? a = some v) : a.block < w.heap.size := by
 unfold World.cell? at h
 rcases Nat.lt_or_ge a.block w.heap.size with hlt | hge
 ·exact hlt
 ·rw [Array.getElem?_eq_none hge] at h
  simp at h
theorem rd30_at (l : List S30) (k : Nat) (h : k < l.length) : rd_T30 l (k : Int) = l[k] := by
 unfold rd_T30
 simp [List.getD, List.getElem?_eq_getElem h]
set_option maxHeartbeats 4000000 in
set_option maxRecDepth 100000 in
theorem CompareFunc_any (l m : List S30) (ih : ∀ x ∈ l, CmpAny x) (A B : Option Addr) (c e : Nat) (w : World) (hA : k30.C w A l.length l) (hc : l.length ≤ c) (hB : k30.C w B m.length m) (he : m.length ≤ e) :
  Calls Try.prog 78 #[.slice A l.length c, .slice B m.length e, .func (.func 36) #[] #[]] w fun r w' => r = .returned (.int .i64 (cmpTs l m)) ∧ Below w.heap.size w w' := by
 have hll : l.length ≤ 9223372036854775807 := hA.2.1
 have hml : m.length ≤ 9223372036854775807 := hB.2.1
 have hAz := Az_.mk hA
 have hBz := Az_.mk hB
 have hIz := Az_.mk ih
 clear hA hB ih
 go_enter Try.func78, Try.ntmps78
 go_wp2
 go_loopw [13] (fun i wr => ∃ k : Nat, k ≤ l.length ∧ i = .int .i64 k ∧ Az_ (k ≤ m.length) ∧ Az_ (cmpTs l m = cmpTs (l.drop k) (m.drop k)) ∧ Az_ (Below w.heap.size w wr)) (fun i wr => l.length - (intOf i).toNat)
 case atStart => exact ⟨0, Nat.zero_le _, rfl, ⟨Nat.zero_le _⟩, ⟨rfl⟩, ⟨Below.refl _ _⟩⟩
 case round =>
  obtain ⟨k, hk, rfl, hkm, hcm, hb⟩ := hrel
  by_cases hlt : k < l.length
  ·obtain ⟨ad, A1, c1, rfl, hx0, hx1, hl1, hC1⟩ := at_T30 (Kd.C_below hAz.out hb.out) (k : Int) (by omega) (by omega)
   rw [rd30_at l k hlt] at hx0 hx1 hl1 hC1
   rw [Int.toNat_natCast] at hx0 hx1
   have hC1 := Az_.mk hC1
   by_cases hlm : k < m.length
   ·obtain ⟨bd, B1, e1, rfl, hy0, hy1, hm1, hD1⟩ := at_T30 (Kd.C_below hBz.out hb.out) (k : Int) (by omega) (by omega)
    rw [rd30_at m k hlm] at hy0 hy1 hm1 hD1
    rw [Int.toNat_natCast] at hy0 hy1
    have hD1 := Az_.mk hD1
    have hat := cmpTs_at l m k hlt hlm
    have hih := Az_.mk (hIz.out l[k] (List.getElem_mem hlt) m[k])
    generalize hxk : l[k] = x at hx0 hx1 hl1 hC1 hat hih
    generalize hyk : m[k] = y at hy0 hy1 hm1 hD1 hat hih
    obtain ⟨r, hr⟩ : ∃ r, r = cmpT x y := ⟨_, rfl⟩
    rw [← hr] at hat
    have hrz := Az_.mk hr
    have hatz := Az_.mk hat
    clear hxk hyk hat hr
    have hba := bA_ (Below.refl wr.heap.size wr) (.cells #[.int .i64 x.f0, .slice A1 x.f1.length c1] 30)
    have hz0 := (hba.cell (cell_lt' hy0)).trans hy0
    have hz1 := (hba.cell (cell_lt' hy1)).trans hy1
    clear hba
    have hin : Az_ (∀ W, Below wr.heap.size wr W → Calls Try.prog 36 #[.agg #[.int .i64 x.f0, .slice A1 x.f1.length c1], .agg #[.int .i64 y.f0, .slice B1 y.f1.length e1]] W fun q w' => q = .returned (.int .i64 r) ∧ Below W.heap.size W w') := ⟨fun W hW => by rw [hrz.out]; exact hih.out A1 B1 c1 e1 W (Kd.C_below hC1.out hW) hl1 (Kd.C_below hD1.out hW) hm1⟩
    clear hih hrz
    by_cases hr0 : r = 0
    ·subst hr0
     go_wp2_with (go_at_call 36; refine (hin.out _ (bA_ (bA_ (Below.refl _ _) _) _)).mono ?_; rintro q w3 ⟨rfl, hb3⟩; have hb4 : Below w.heap.size w w3 := (hb.out.trans ((bA_ (bA_ (Below.refl _ _) _) _ : Below wr.heap.size wr _).mono hb.out.size)).trans (hb3.mono (by have := hb.out.size; simp; omega)); have hb5 := Az_.mk hb4; clear hb3 hb4)
     go_roundw
     case rel => exact ⟨k + 1, by omega, by go_num, ⟨by omega⟩, ⟨by rw [hcm.out, hatz.out]; simp⟩, hb5⟩
     case measure => simp [intOf]; omega
    ·have hr1 : (r == 0) = false := by simpa using hr0
     have hr2 : (r != 0) = true := by simpa using hr0
     go_wp2_with (go_at_call 36; refine (hin.out _ (bA_ (bA_ (Below.refl _ _) _) _)).mono ?_; rintro q w3 ⟨rfl, hb3⟩; have hb4 : Below w.heap.size w w3 := (hb.out.trans ((bA_ (bA_ (Below.refl _ _) _) _ : Below wr.heap.size wr _).mono hb.out.size)).trans (hb3.mono (by have := hb.out.size; simp; omega)); have hb5 := Az_.mk hb4; clear hb3 hb4)
     have hres : cmpTs l m = r := by rw [hcm.out, hatz.out, if_neg hr0]
     go_ret
     rw [hres]
     exact ⟨rfl, hb5.out⟩
   ·have hres : cmpTs l m = 1 := by
     have hke : k = m.length := by have := hkm.out; omega
     rw [hcm.out, hke, List.drop_length, List.drop_eq_getElem_cons (by omega), cmpTs]
    have hge : (m.length : Int) ≤ (k : Int) := by omega
    generalize l[k] = x at hx0 hx1 hl1 hC1
    go_wp2
    go_ret
    rw [hres]
    exact ⟨rfl, bA_ hb.out _⟩
  ·have hke : k = l.length := by omega
   have hkm' := hkm.out
   by_cases hlm : l.length < m.length
   ·have hres : cmpTs l m = -1 := by rw [hcm.out, hke, List.drop_length, List.drop_eq_getElem_cons (by omega), cmpTs]
    go_wp2
    go_ret
    rw [hres]
    exact ⟨rfl, hb.out⟩
   ·have hres : cmpTs l m = 0 := by rw [hcm.out, hke, List.drop_length, show l.length = m.length by omega, List.drop_length, cmpTs]
    go_wp2
    go_ret
    rw [hres]
    exact ⟨rfl, hb.out⟩
set_option maxHeartbeats 4000000 in
set_option maxRecDepth 100000 in
theorem Compare_any : ∀ x : S30, CmpAny x := by
 refine S30.ind ?_
 intro f l ih y A B c e w hA hc hB he
 obtain ⟨g, m⟩ := y
 simp only at hA hc hB he
 have hc76 := fun (a b : Int) (w1 : World) => cmp_Compare_int.calls a b _ w1 (cmpI_f a b)
 have hIz := Az_.mk ih
 have hCF := Az_.mk (fun w1 (hb : Below w.heap.size w w1) => CompareFunc_any l m ih A B c e w1 (Kd.C_below hA hb) hc (Kd.C_below hB hb) he)
 have h76 := Az_.mk hc76
 clear hc76 hA hB ih hIz
 go_enter Try.func36, Try.ntmps36
 by_cases hv : f < 0 ∨ g < 0
 ·by_cases h2 : f < 0 ∧ g < 0
  ·have hres : cmpT ⟨f, l⟩ ⟨g, m⟩ = cmpI g f := by rw [cmpT, if_pos hv, if_pos h2]
   have hf1 : decide (f < 0) = true := decide_eq_true h2.1
   have hg1 : decide (g < 0) = true := decide_eq_true h2.2
   clear hv h2
   go_wp2_with (go_at_call 76; refine (h76.out _ _ _).mono ?_; rintro q w1 ⟨rfl, hd⟩; have hb1 := Az_.mk (hd.below); clear hd)
   go_ret
   rw [hres]
   exact ⟨rfl, (bA_ (bA_ (Below.refl _ _) _) _).trans (hb1.out.mono (by simp; omega))⟩
  ·have hres : cmpT ⟨f, l⟩ ⟨g, m⟩ = cmpI f g := by rw [cmpT, if_pos hv, if_neg h2]
   by_cases hf : f < 0
   ·have hf1 : decide (f < 0) = true := decide_eq_true hf
    have hg1 : decide (g < 0) = false := decide_eq_false (fun h => h2 ⟨hf, h⟩)
    clear hv h2
    go_wp2_with (go_at_call 76; refine (h76.out _ _ _).mono ?_; rintro q w1 ⟨rfl, hd⟩; have hb1 := Az_.mk (hd.below); clear hd)
    go_ret
    rw [hres]
    exact ⟨rfl, (bA_ (bA_ (Below.refl _ _) _) _).trans (hb1.out.mono (by simp; omega))⟩
   ·have hf1 : decide (f < 0) = false := decide_eq_false hf
    have hg1 : decide (g < 0) = true := decide_eq_true (hv.resolve_left hf)
    clear hv h2
    go_wp2_with (go_at_call 76; refine (h76.out _ _ _).mono ?_; rintro q w1 ⟨rfl, hd⟩; have hb1 := Az_.mk (hd.below); clear hd)
    go_ret
    rw [hres]
    exact ⟨rfl, (bA_ (bA_ (Below.refl _ _) _) _).trans (hb1.out.mono (by simp; omega))⟩
 ·have hres : cmpT ⟨f, l⟩ ⟨g, m⟩ = orI (cmpI f g) (cmpI l.length m.length) (cmpTs l m) := by rw [cmpT, if_neg hv]
  have hf1 : decide (f < 0) = false := decide_eq_false (fun h => hv (.inl h))
  have hg1 : decide (g < 0) = false := decide_eq_false (fun h => hv (.inr h))
  obtain ⟨r, hr⟩ : ∃ r, r = orI (cmpI f g) (cmpI l.length m.length) (cmpTs l m) := ⟨_, rfl⟩
  obtain ⟨ko, hko⟩ := (orI_f (cmpI f g) (cmpI l.length m.length) (cmpTs l m)).rounds
  rw [← hr] at hres hko
  have hkz := Az_.mk hko
  clear hv hr hko
  go_wp2
  refine Compare_r5 (f := f) (g := g) (c1 := cmpI f g) (c2 := cmpI l.length m.length) (c3 := cmpTs l m) (r := r) (A := A) (B := B) (nl := l.length) (nm := m.length) (c := c) (e := e) (g0 := w.heap.size) (g1 := w.heap.size + 1) (by kernel_rfl) rfl (kA_ (heap_alloc_new _ _) _) rfl ?_ ?_ ?_ ?_ ?_ hc he ?_
  ·have := heap_alloc_new (w.alloc (.cells #[.int .i64 f, .slice A l.length c] 30)) (.cells #[.int .i64 g, .slice B m.length e] 30)
   rw [World.size_alloc] at this
   exact this
  ·intro w1 hb; exact (h76.out _ _ _).mono (fun q w2 h => ⟨h.1, h.2.below⟩)
  ·intro w1 hb; exact (h76.out _ _ _).mono (fun q w2 h => ⟨h.1, h.2.below⟩)
  ·intro w1 hb; exact hCF.out w1 ((bA_ (bA_ (Below.refl _ _) _) _).trans (hb.mono (by simp; omega)))
  ·intro w1 gs hgs
   refine (cmp_Or_int.calls ko (some ⟨gs, 0, none⟩) 3 [cmpI f g, cmpI l.length m.length, cmpTs l m] r w1 ?_ (by simp) hkz.out).mono (fun q w2 h => ⟨h.1, h.2.below⟩)
   refine ⟨rfl, by simp, fun _ => ⟨_, rfl, fun j p hj => ?_⟩⟩
   have hcell := fun i => yaa_ hgs i
   match j with
   | 0 => simp at hj; subst hj; exact ⟨[.int .i64 _], rfl, rfl, fun i u hi => by (match i with | 0 => simp at hi; subst hi; exact (hcell 0).trans rfl | i + 1 => simp at hi)⟩
   | 1 => simp at hj; subst hj; exact ⟨[.int .i64 _], rfl, rfl, fun i u hi => by (match i with | 0 => simp at hi; subst hi; exact (hcell 1).trans rfl | i + 1 => simp at hi)⟩
   | 2 => simp at hj; subst hj; exact ⟨[.int .i64 _], rfl, rfl, fun i u hi => by (match i with | 0 => simp at hi; subst hi; exact (hcell 2).trans rfl | i + 1 => simp at hi)⟩
   | j + 3 => simp at hj
  intro v w2 hb2 hv19
  simp only [layL, Nat.reduceAdd, List.setIfInBounds_toArray, List.set_cons_zero, List.set_cons_succ, hv19]
  have hb2 := Az_.mk hb2
  clear hv19
  go_wp2
  go_ret
  rw [hres]
  exact ⟨rfl, (bA_ (bA_ (Below.refl _ _) _) _).trans (hb2.out.mono (by simp; omega))⟩
theorem term_Compare.calls (a0_0 : Int) (A0_1 : Option Addr) (c0_1 : Nat) (l0_1 : List S30) (a1_0 : Int) (A1_1 : Option Addr) (c1_1 : Nat) (l1_1 : List S30) (r : Int) (w : World) (hr0_1 : Kd.C k30 w A0_1 l0_1.length l0_1) (hc0_1 : l0_1.length ≤ c0_1) (hr1_1 : Kd.C k30 w A1_1 l1_1.length l1_1) (hc1_1 : l1_1.length ≤ c1_1) (h : term_Compare.f a0_0 l0_1 a1_0 l1_1 = some r) :
  Calls Try.prog 36 #[.agg #[.int .i64 a0_0, .slice A0_1 l0_1.length c0_1], .agg #[.int .i64 a1_0, .slice A1_1 l1_1.length c1_1]] w fun e w' => e = .returned (.int .i64 r) ∧ Below w.heap.size w w' := by
 unfold term_Compare.f at h
 obtain rfl := Option.some.inj h
 exact Compare_any ⟨a0_0, l0_1⟩ ⟨a1_0, l1_1⟩ A0_1 A1_1 c0_1 c1_1 w hr0_1 hc0_1 hr1_1 hc1_1
end
section
attribute [local go_sem] yaq_ yao_ max_two min_two yal_ yak_ yap_ yan_
def term_parts.f (a0_0 : Int) (l0_1 : List (S30)) : Option ((List (S30))) := if a0_0 < 0 then (some ([] : List (S30))) else (some l0_1)
set_option maxHeartbeats 8000000 in
set_option maxRecDepth 100000 in
theorem term_parts.calls (a0_0 : Int) (P0_1_ : Nat → Prop) (A0_1 : Option Addr) (c0_1 : Nat) (l0_1 : List (S30)) (r : List (S30)) (w : World) (hs0_1 : Kd.V k30 30 w w.heap.size (fun k_ => P0_1_ k_) (.slice A0_1 l0_1.length c0_1) l0_1) (h : term_parts.f a0_0 l0_1 = some r) :
  Calls Try.prog 74 #[.agg #[.int .i64 a0_0, .slice A0_1 l0_1.length c0_1]] w fun e w' => ∃ v0_ : Value, e = .returned (v0_) ∧ Kd.V k30 30 w' w.heap.size (fun k_ => (P0_1_ k_ ∨ w.heap.size ≤ k_)) v0_ r ∧ Below w.heap.size w w' := by
 have hu30 := Try.underlying30
 have HO0_1 := Az_.mk (show Kd.V k30 30 w w.heap.size (fun k_ => (P0_1_ k_ ∨ w.heap.size ≤ k_)) (.slice A0_1 l0_1.length c0_1) l0_1 from Kd.V_mono hs0_1 (fun k_ hk => .inl hk))
 have HB := Az_.mk (Below.refl w.heap.size w)
 have H : (if a0_0 < 0 then (some ([] : List (S30))) else (some l0_1)) = some r := h
 clear h
 by_cases c2 : a0_0 < 0
 ·rw [if_pos c2] at H
  have c2b0 : decide (a0_0 < 0) = true := decide_eq_true c2
  clear c2
  obtain rfl := Option.some.inj H
  go_enter Try.func74, Try.ntmps74
  go_wp2_with (first | ((with_reducible refine yaj_ (N := 1) rfl ?_); refine yai_ ?hg (N := 1) ?hd (cs := #[.int .i64 a0_0, .slice A0_1 l0_1.length c0_1]) (t := 30) ?hr ?_; (case hd => rfl); (case hg => rfl); (case hr => first | (go_simp; done) | (go_simp; rfl)); intro gb169 hg w3 hbox hb; have n0_ := Az_.mk (Kd.V_below (Kd.V_elderB (by (with_reducible repeat (first | apply Kd.V_alloc | apply Kd.V_drewN | apply Kd.V_drew)); exact HO0_1.out) gb169 (Nat.le_of_eq hg.symm)) hb); have n1_ := Az_.mk (bT_ (by repeat (first | (with_reducible first | exact HB.out | apply bA_ | apply bN_ | apply bD_) | exact HB.out)) hb); have n2_ := Az_.mk (hbox); have n3_ := Az_.mk ((by rw [hg]; exact (bZ_ (by repeat (first | (with_reducible first | exact HB.out | apply bA_ | apply bN_ | apply bD_) | exact HB.out))) : w.heap.size ≤ gb169)); have n4_ := Az_.mk ((by rw [hg]; exact (bZ_ (by repeat (first | (with_reducible first | exact HB.out | apply bA_ | apply bN_ | apply bD_) | exact HB.out))) : w.heap.size ≤ gb169)); clear HO0_1; clear HB; have HO0_1 := n0_; have HB := n1_; have BK169 := n2_; have GW169 := n3_; have GE169 := n4_; clear n0_ n1_ n2_ n3_ n4_; clear hb hbox hg; have hcz4_0 : w3.cell? ⟨gb169, 0, none⟩ = some (.int .i64 a0_0) := (yaa_ BK169.out 0).trans rfl; have hcz4_1 : w3.cell? ⟨gb169, 1, none⟩ = some (.slice A0_1 l0_1.length c0_1) := (yaa_ BK169.out 1).trans rfl; have hfz4_0 := yab_ BK169.out 0; have hfz4_1 := yab_ BK169.out 1))
  go_ret
  exact ⟨_, by first | rfl | (simp [yae_, yad_] <;> rfl) | (simp [*, yae_, yad_] <;> rfl), by first | exact Kd.R_nil _ _ _ _ _ | exact Kd.N_nil _ _ _ _ _ | exact Kd.V_nil _ _ _ _ _ | exact Kd.Q_nil _ _ _ _ _ | exact Kd.S_nil _ _ _ _ _, by repeat (first | (with_reducible first | exact HB.out | apply bA_ | apply bN_ | apply bD_ | refine bS_ ?_ GE169.out) | exact HB.out)⟩
 ·rw [if_neg c2] at H
  have c2b0 : decide (a0_0 < 0) = false := decide_eq_false c2
  clear c2
  obtain rfl := Option.some.inj H
  go_enter Try.func74, Try.ntmps74
  go_wp2_with (first | ((with_reducible refine yaj_ (N := 1) rfl ?_); refine yai_ ?hg (N := 1) ?hd (cs := #[.int .i64 a0_0, .slice A0_1 l0_1.length c0_1]) (t := 30) ?hr ?_; (case hd => rfl); (case hg => rfl); (case hr => first | (go_simp; done) | (go_simp; rfl)); intro gb169 hg w5 hbox hb; have n0_ := Az_.mk (Kd.V_below (Kd.V_elderB (by (with_reducible repeat (first | apply Kd.V_alloc | apply Kd.V_drewN | apply Kd.V_drew)); exact HO0_1.out) gb169 (Nat.le_of_eq hg.symm)) hb); have n1_ := Az_.mk (bT_ (by repeat (first | (with_reducible first | exact HB.out | apply bA_ | apply bN_ | apply bD_) | exact HB.out)) hb); have n2_ := Az_.mk (hbox); have n3_ := Az_.mk ((by rw [hg]; exact (bZ_ (by repeat (first | (with_reducible first | exact HB.out | apply bA_ | apply bN_ | apply bD_) | exact HB.out))) : w.heap.size ≤ gb169)); have n4_ := Az_.mk ((by rw [hg]; exact (bZ_ (by repeat (first | (with_reducible first | exact HB.out | apply bA_ | apply bN_ | apply bD_) | exact HB.out))) : w.heap.size ≤ gb169)); clear HO0_1; clear HB; have HO0_1 := n0_; have HB := n1_; have BK169 := n2_; have GW169 := n3_; have GE169 := n4_; clear n0_ n1_ n2_ n3_ n4_; clear hb hbox hg; have hcz6_0 : w5.cell? ⟨gb169, 0, none⟩ = some (.int .i64 a0_0) := (yaa_ BK169.out 0).trans rfl; have hcz6_1 : w5.cell? ⟨gb169, 1, none⟩ = some (.slice A0_1 l0_1.length c0_1) := (yaa_ BK169.out 1).trans rfl; have hfz6_0 := yab_ BK169.out 0; have hfz6_1 := yab_ BK169.out 1))
  go_ret
  exact ⟨_, by first | rfl | (simp [yae_, yad_] <;> rfl) | (simp [*, yae_, yad_] <;> rfl), by (with_reducible repeat (first | apply Kd.V_alloc | apply Kd.V_drewN | apply Kd.V_drew)); exact Kd.V_mono HO0_1.out (fun _ hk => hk.1), by repeat (first | (with_reducible first | exact HB.out | apply bA_ | apply bN_ | apply bD_ | refine bS_ ?_ GE169.out) | exact HB.out)⟩
end
section
attribute [local go_sem] yaq_ yao_ max_two min_two yal_ yak_ yap_ yan_
mutual
def term_Clone.l0 : Nat → List (S30) → Int → Int → Int → List (S30) → Option (Int × (List (S30)))
 | 0, _, _, _, _, _ => none
 | k + 1, x10, x11, x12, x196000, x196001 => if x12 < x11 then (if 0 ≤ x12 then (if x12 < (x10.length : Int) then ((term_Clone.f k ((rd_T30 x10 x12).f0) ((rd_T30 x10 x12).f1)).bind fun bt201 => (if x196001.length < 4398046511104 then (term_Clone.l0 k x10 x11 (wrap64 (x12 + 1)) x196000 (x196001 ++ [(⟨bt201.1, bt201.2⟩ : S30)])) else (none))) else (none)) else (none)) else (some (x196000, x196001))
def term_Clone.f : Nat → Int → List (S30) → Option (Int × (List (S30)))
 | 0, _, _ => none
 | k + 1, a0_0, l0_1 => (term_parts.f a0_0 l0_1).bind fun t196 => (term_Clone.l0 k t196 (t196.length : Int) 0 a0_0 ([] : List (S30)))
end
def term_Clone.T5 : Bool × List (List Nat × List Nat) := (true, [([], []), ([0], [0]), ([], []), ([2], [2]), ([3], [3]), ([1, 4, 3], [1, 4]), ([0, 1, 2, 3, 4, 5], []), ([6, 5, 5, 0, 1, 2, 3, 4, 5], [5, 6])])
def term_Clone.B5 : List Nat := [0, 1, 0, 4, 12, 31, 63, 127]
theorem term_Clone.tab5 : rtab .any (opsOf Try.f38 5) = term_Clone.T5 := by kernel_rfl
theorem term_Clone.bits5 : waitsOk term_Clone.T5.2 term_Clone.B5 = true := by kernel_rfl
set_option maxHeartbeats 8000000 in
set_option maxRecDepth 100000 in
theorem term_Clone.calls (k : Nat) : ∀ (a0_0 : Int) (A0_1 : Option Addr) (c0_1 : Nat) (l0_1 : List (S30)) (r1 : Int) (r2 : List (S30)) (w : World) (hr0_1 : Kd.C k30 w A0_1 l0_1.length l0_1) (hc0_1 : l0_1.length ≤ c0_1) (h : term_Clone.f k a0_0 l0_1 = some (r1, r2)),
  Calls Try.prog 38 #[.agg #[.int .i64 a0_0, .slice A0_1 l0_1.length c0_1]] w fun e w' => ∃ v1_ : Value, e = .returned (.agg #[.int .i64 r1, v1_]) ∧ Kd.R k30 30 w' w.heap.size (fun _ => True) v1_ r2 ∧ Below w.heap.size w w' := by
 induction k using Nat.strongRecOn with
 | _ k ih =>
 intro a0_0 A0_1 c0_1 l0_1 r1 r2 w hr0_1 hc0_1 h
 cases k with
 | zero => exact absurd h (by simp [term_Clone.f])
 | succ k =>
 simp only [term_Clone.f] at h
 have hu30 := Try.underlying30
 have HR0_1 := Az_.mk hr0_1
 have HC0_1 := Az_.mk hc0_1
 clear hr0_1 hc0_1
 have HB := Az_.mk (Below.refl w.heap.size w)
 have H : ((term_parts.f a0_0 l0_1).bind fun t196 => (term_Clone.l0 k t196 (t196.length : Int) 0 a0_0 ([] : List (S30)))) = some (r1, r2) := h
 clear h
 replace H := Option.bind_eq_some_iff.mp H
 obtain ⟨t196, A20, H⟩ := H
 replace H : (term_Clone.l0 k t196 (t196.length : Int) 0 a0_0 ([] : List (S30))) = some (r1, r2) := H
 have A2 := Az_.mk A20
 clear A20
 have H' := Az_.mk H
 clear H
 go_enter Try.func38, Try.ntmps38
 go_wp2_with (first | ((with_reducible refine yaj_ (N := 1) rfl ?_); refine yai_ ?hg (N := 1) ?hd (cs := #[.int .i64 a0_0, .slice A0_1 l0_1.length c0_1]) (t := 30) ?hr ?_; (case hd => rfl); (case hg => rfl); (case hr => first | (go_simp; done) | (go_simp; rfl)); intro gb193 hg w3 hbox hb; have n0_ := Az_.mk (bT_ (by repeat (first | (with_reducible first | exact HB.out | apply bA_ | apply bN_ | apply bD_) | exact HB.out)) hb); have n1_ := Az_.mk (hbox); have n2_ := Az_.mk ((by rw [hg]; exact (bZ_ (by repeat (first | (with_reducible first | exact HB.out | apply bA_ | apply bN_ | apply bD_) | exact HB.out))) : w.heap.size ≤ gb193)); have n3_ := Az_.mk ((by rw [hg]; exact (bZ_ (by repeat (first | (with_reducible first | exact HB.out | apply bA_ | apply bN_ | apply bD_) | exact HB.out))) : w.heap.size ≤ gb193)); clear HB; have HB := n0_; have BK193 := n1_; have GW193 := n2_; have GE193 := n3_; clear n0_ n1_ n2_ n3_; clear hb hbox hg) | ((with_reducible refine yaj_ (N := 2) rfl ?_); refine yai_ ?hg (N := 2) ?hd (cs := #[.int .i64 0, .slice none 0 0]) (t := 30) ?hr ?_; (case hd => rfl); (case hg => rfl); (case hr => first | (go_simp; done) | (go_simp; rfl)); intro gb194 hg w4 hbox hb; have n0_ := Az_.mk (kB_ (g := gb193) (o := .cells #[.int .i64 a0_0, .slice A0_1 l0_1.length c0_1] 30 (0, 0)) (by (with_reducible repeat (first | refine kN_ ?_ _ | refine kD_ ?_ | refine kA_ ?_ _)); exact BK193.out) hb); have n1_ := Az_.mk (bT_ (by repeat (first | (with_reducible first | exact HB.out | apply bA_ | apply bN_ | apply bD_ | refine bS_ ?_ GE193.out) | exact HB.out)) hb); have n2_ := Az_.mk (hbox); have n3_ := Az_.mk ((by rw [hg]; exact (bZ_ (by repeat (first | (with_reducible first | exact HB.out | apply bA_ | apply bN_ | apply bD_ | refine bS_ ?_ GE193.out) | exact HB.out))) : w.heap.size ≤ gb194)); have n4_ := Az_.mk ((by rw [hg]; exact (bZ_ (by repeat (first | (with_reducible first | exact HB.out | apply bA_ | apply bN_ | apply bD_ | refine bS_ ?_ GE193.out) | exact HB.out))) : w.heap.size ≤ gb194)); have n5_ := Az_.mk ((by rw [hg]; exact Nat.ne_of_lt (blk_lt (g := gb193) (o := .cells #[.int .i64 a0_0, .slice A0_1 l0_1.length c0_1] 30 (0, 0)) (by (with_reducible repeat (first | refine kN_ ?_ _ | refine kD_ ?_ | refine kA_ ?_ _)); exact BK193.out)) : gb193 ≠ gb194)); have n6_ := Az_.mk ((by rw [hg]; exact Nat.ne_of_gt (blk_lt (g := gb193) (o := .cells #[.int .i64 a0_0, .slice A0_1 l0_1.length c0_1] 30 (0, 0)) (by (with_reducible repeat (first | refine kN_ ?_ _ | refine kD_ ?_ | refine kA_ ?_ _)); exact BK193.out)) : gb194 ≠ gb193)); clear BK193; clear HB; have BK193 := n0_; have HB := n1_; have BK194 := n2_; have GW194 := n3_; have GE194 := n4_; have NB193_194 := n5_; have NB194_193 := n6_; clear n0_ n1_ n2_ n3_ n4_ n5_ n6_; clear hb hbox hg; have hnb5 := NB193_194.out; have hnc5 := NB194_193.out; have hcz6_0 : w4.cell? ⟨gb193, 0, none⟩ = some (.int .i64 a0_0) := (yaa_ BK193.out 0).trans rfl; have hcz6_1 : w4.cell? ⟨gb193, 1, none⟩ = some (.slice A0_1 l0_1.length c0_1) := (yaa_ BK193.out 1).trans rfl; have hfz6_0 := yab_ BK193.out 0; have hfz6_1 := yab_ BK193.out 1) | ((with_reducible refine yaj_ (N := 3) rfl ?_); refine yai_ ?hg (N := 3) ?hd (cs := #[.int .i64 0, .slice none 0 0]) (t := 30) ?hr ?_; (case hd => rfl); (case hg => rfl); (case hr => first | (go_simp; done) | (go_simp; rfl)); intro gb195 hg w7 hbox hb; have n0_ := Az_.mk (kB_ (g := gb193) (o := .cells #[.int .i64 a0_0, .slice A0_1 l0_1.length c0_1] 30 (0, 0)) (by (with_reducible repeat (first | refine kN_ ?_ _ | refine kD_ ?_ | refine kA_ ?_ _)); exact BK193.out) hb); have n1_ := Az_.mk (kB_ (g := gb194) (o := .cells #[.int .i64 0, .slice none 0 0] 30 (0, 0)) (by (with_reducible repeat (first | refine kN_ ?_ _ | refine kD_ ?_ | refine kA_ ?_ _)); exact BK194.out) hb); have n2_ := Az_.mk (bT_ (by repeat (first | (with_reducible first | exact HB.out | apply bA_ | apply bN_ | apply bD_ | refine bS_ ?_ GE193.out | refine bS_ ?_ GE194.out) | exact HB.out)) hb); have n3_ := Az_.mk (hbox); have n4_ := Az_.mk ((by rw [hg]; exact (bZ_ (by repeat (first | (with_reducible first | exact HB.out | apply bA_ | apply bN_ | apply bD_ | refine bS_ ?_ GE193.out | refine bS_ ?_ GE194.out) | exact HB.out))) : w.heap.size ≤ gb195)); have n5_ := Az_.mk ((by rw [hg]; exact (bZ_ (by repeat (first | (with_reducible first | exact HB.out | apply bA_ | apply bN_ | apply bD_ | refine bS_ ?_ GE193.out | refine bS_ ?_ GE194.out) | exact HB.out))) : w.heap.size ≤ gb195)); have n6_ := Az_.mk ((by rw [hg]; exact Nat.ne_of_lt (blk_lt (g := gb193) (o := .cells #[.int .i64 a0_0, .slice A0_1 l0_1.length c0_1] 30 (0, 0)) (by (with_reducible repeat (first | refine kN_ ?_ _ | refine kD_ ?_ | refine kA_ ?_ _)); exact BK193.out)) : gb193 ≠ gb195)); have n7_ := Az_.mk ((by rw [hg]; exact Nat.ne_of_gt (blk_lt (g := gb193) (o := .cells #[.int .i64 a0_0, .slice A0_1 l0_1.length c0_1] 30 (0, 0)) (by (with_reducible repeat (first | refine kN_ ?_ _ | refine kD_ ?_ | refine kA_ ?_ _)); exact BK193.out)) : gb195 ≠ gb193)); have n8_ := Az_.mk ((by rw [hg]; exact Nat.ne_of_lt (blk_lt (g := gb194) (o := .cells #[.int .i64 0, .slice none 0 0] 30 (0, 0)) (by (with_reducible repeat (first | refine kN_ ?_ _ | refine kD_ ?_ | refine kA_ ?_ _)); exact BK194.out)) : gb194 ≠ gb195)); have n9_ := Az_.mk ((by rw [hg]; exact Nat.ne_of_gt (blk_lt (g := gb194) (o := .cells #[.int .i64 0, .slice none 0 0] 30 (0, 0)) (by (with_reducible repeat (first | refine kN_ ?_ _ | refine kD_ ?_ | refine kA_ ?_ _)); exact BK194.out)) : gb195 ≠ gb194)); clear BK193; clear BK194; clear HB; have BK193 := n0_; have BK194 := n1_; have HB := n2_; have BK195 := n3_; have GW195 := n4_; have GE195 := n5_; have NB193_195 := n6_; have NB195_193 := n7_; have NB194_195 := n8_; have NB195_194 := n9_; clear n0_ n1_ n2_ n3_ n4_ n5_ n6_ n7_ n8_ n9_; clear hb hbox hg; have hnb8 := NB195_193.out; have hnc8 := NB193_195.out; have hnb9 := NB195_194.out; have hnc9 := NB194_195.out; have hcz10_0 : w7.cell? ⟨gb195, 0, none⟩ = some (.int .i64 0) := (yaa_ BK195.out 0).trans rfl; have hcz10_1 : w7.cell? ⟨gb195, 1, none⟩ = some (.slice none 0 0) := (yaa_ BK195.out 1).trans rfl; have hfz10_0 := yab_ BK195.out 0; have hfz10_1 := yab_ BK195.out 1) | ((with_reducible refine gate_store (t := 30) (p := 3) rfl ?_); refine store_event (t := 30) (p := 3) (v := ?vo_w11) (w1 := ((w7.setCell ⟨gb195, 0, none⟩ (.int .i64 a0_0)).setCell ⟨gb195, 1, none⟩ (.slice none 0 0))) ?hg ?ho ?hn ?hr ?_; (case ho => rfl); (case hg => rfl); (case hn => rfl); (case hr => first | (go_simp; done) | (go_simp; rfl)); intro w11 hw; have n0_ : Az_ (w11.heap[gb193]? = some (.cells #[.int .i64 a0_0, .slice A0_1 l0_1.length c0_1] 30 (0, 0))) := ⟨(by rw [hw]; exact (by (with_reducible repeat (first | refine kN_ ?_ _ | refine kD_ ?_ | refine kA_ ?_ _)); refine blk_far ?_ NB193_195.out _; (with_reducible repeat (first | refine kN_ ?_ _ | refine kD_ ?_ | refine kA_ ?_ _)); refine blk_far ?_ NB193_195.out _; (with_reducible repeat (first | refine kN_ ?_ _ | refine kD_ ?_ | refine kA_ ?_ _)); exact BK193.out))⟩; have n1_ : Az_ (w11.heap[gb194]? = some (.cells #[.int .i64 0, .slice none 0 0] 30 (0, 0))) := ⟨(by rw [hw]; exact (by (with_reducible repeat (first | refine kN_ ?_ _ | refine kD_ ?_ | refine kA_ ?_ _)); refine blk_far ?_ NB194_195.out _; (with_reducible repeat (first | refine kN_ ?_ _ | refine kD_ ?_ | refine kA_ ?_ _)); refine blk_far ?_ NB194_195.out _; (with_reducible repeat (first | refine kN_ ?_ _ | refine kD_ ?_ | refine kA_ ?_ _)); exact BK194.out))⟩; have n2_ : Az_ (w11.heap[gb195]? = some (.cells #[.int .i64 a0_0, .slice none 0 0] 30 (0, 0))) := ⟨(by rw [hw]; exact (by (with_reducible repeat (first | refine kN_ ?_ _ | refine kD_ ?_ | refine kA_ ?_ _)); refine blk_put (cs := #[.int .i64 a0_0, .slice none 0 0]) ?_ 1 _ rfl; (with_reducible repeat (first | refine kN_ ?_ _ | refine kD_ ?_ | refine kA_ ?_ _)); refine blk_put (cs := #[.int .i64 0, .slice none 0 0]) ?_ 0 _ rfl; (with_reducible repeat (first | refine kN_ ?_ _ | refine kD_ ?_ | refine kA_ ?_ _)); exact BK195.out))⟩; have n3_ : Az_ (Below w.heap.size w w11) := ⟨(by rw [hw]; exact (by repeat (first | (with_reducible first | exact HB.out | apply bA_ | apply bN_ | apply bD_ | refine bS_ ?_ GE193.out | refine bS_ ?_ GE194.out | refine bS_ ?_ GE195.out) | exact HB.out)))⟩; clear hw; clear BK193; clear BK194; clear BK195; clear HB; have BK193 := n0_; have BK194 := n1_; have BK195 := n2_; have HB := n3_; clear n0_ n1_ n2_ n3_; have hcz12_0 : w11.cell? ⟨gb193, 0, none⟩ = some (.int .i64 a0_0) := (yaa_ BK193.out 0).trans rfl; have hcz12_1 : w11.cell? ⟨gb193, 1, none⟩ = some (.slice A0_1 l0_1.length c0_1) := (yaa_ BK193.out 1).trans rfl; have hfz12_0 := yab_ BK193.out 0; have hfz12_1 := yab_ BK193.out 1) | ((with_reducible refine yah_ (f := 74) rfl ?_); refine goesL_ (some 10) rfl rfl Try.func74 (by kernel_rfl) rfl #[.agg #[.int .i64 a0_0, .slice A0_1 l0_1.length c0_1]] rfl (by (try simp only [List.map_toArray, List.map_cons, List.map_nil]); first | done | rfl | (simp only [List.length_drop, List.length_take]; rfl)) ?_; (with_reducible refine (term_parts.calls a0_0 (fun k_ => k_ < w.heap.size) _ _ l0_1 t196 _ ?side1 A2.out).mono ?_); (case side1 => exact Kd.V_mk HC0_1.out (Kd.F_below (Kd.C_F k30_heap HR0_1.out) (by repeat (first | (with_reducible first | exact HB.out | apply bA_ | apply bN_ | apply bD_ | refine bS_ ?_ GE193.out | refine bS_ ?_ GE194.out | refine bS_ ?_ GE195.out) | exact HB.out)))); rintro e w13 ⟨v197, rfl, ho0, hb⟩; refine ⟨_, rfl, ?_⟩; have n0_ := Az_.mk (Kd.V_lower (Kd.V_mono (ok' := fun k_ => k_ ≠ gb193 ∧ k_ ≠ gb194 ∧ k_ ≠ gb195) ho0 (fun k_ hk_ => ⟨Or.elim hk_ (fun hs_ => fun e_ => Nat.not_le.2 hs_ (by rw [e_]; exact GW193.out)) (fun hn_ => (Kd.freshB (g := gb193) (o := .cells #[.int .i64 a0_0, .slice A0_1 l0_1.length c0_1] 30 (0, 0)) (by (with_reducible repeat (first | refine kN_ ?_ _ | refine kD_ ?_ | refine kA_ ?_ _)); exact BK193.out) k_ hn_)), Or.elim hk_ (fun hs_ => fun e_ => Nat.not_le.2 hs_ (by rw [e_]; exact GW194.out)) (fun hn_ => (Kd.freshB (g := gb194) (o := .cells #[.int .i64 0, .slice none 0 0] 30 (0, 0)) (by (with_reducible repeat (first | refine kN_ ?_ _ | refine kD_ ?_ | refine kA_ ?_ _)); exact BK194.out) k_ hn_)), Or.elim hk_ (fun hs_ => fun e_ => Nat.not_le.2 hs_ (by rw [e_]; exact GW195.out)) (fun hn_ => (Kd.freshB (g := gb195) (o := .cells #[.int .i64 a0_0, .slice none 0 0] 30 (0, 0)) (by (with_reducible repeat (first | refine kN_ ?_ _ | refine kD_ ?_ | refine kA_ ?_ _)); exact BK195.out) k_ hn_))⟩)) (bZ_ (by repeat (first | (with_reducible first | exact HB.out | apply bA_ | apply bN_ | apply bD_ | refine bS_ ?_ GE193.out | refine bS_ ?_ GE194.out | refine bS_ ?_ GE195.out) | exact HB.out)))); have n1_ := Az_.mk (kB_ (g := gb193) (o := .cells #[.int .i64 a0_0, .slice A0_1 l0_1.length c0_1] 30 (0, 0)) (by (with_reducible repeat (first | refine kN_ ?_ _ | refine kD_ ?_ | refine kA_ ?_ _)); exact BK193.out) hb); have n2_ := Az_.mk (kB_ (g := gb194) (o := .cells #[.int .i64 0, .slice none 0 0] 30 (0, 0)) (by (with_reducible repeat (first | refine kN_ ?_ _ | refine kD_ ?_ | refine kA_ ?_ _)); exact BK194.out) hb); have n3_ := Az_.mk (kB_ (g := gb195) (o := .cells #[.int .i64 a0_0, .slice none 0 0] 30 (0, 0)) (by (with_reducible repeat (first | refine kN_ ?_ _ | refine kD_ ?_ | refine kA_ ?_ _)); exact BK195.out) hb); have n4_ := Az_.mk (bT_ (by repeat (first | (with_reducible first | exact HB.out | apply bA_ | apply bN_ | apply bD_ | refine bS_ ?_ GE193.out | refine bS_ ?_ GE194.out | refine bS_ ?_ GE195.out) | exact HB.out)) hb); clear BK193; clear BK194; clear BK195; clear HB; have HO198 := n0_; have BK193 := n1_; have BK194 := n2_; have BK195 := n3_; have HB := n4_; clear n0_ n1_ n2_ n3_ n4_; (try clear hb); (try clear hb2); (try clear hk); (try clear hi); (try clear ho0); obtain ⟨Ao14, co14, eo14⟩ := Kd.V_slice HO198.out; subst eo14))
 go_loopg [12] k (fun kq v12 w' => ∃ (x12_1 : Int) (x196001_1 : List (S30)) (u196001 : Value), v12 = .int .i64 x12_1 ∧ Az_ (term_Clone.l0 kq t196 (t196.length : Int) x12_1 a0_0 x196001_1 = some (r1, r2)) ∧ Az_ (kq ≤ k) ∧ Az_ (Kd.V k30 30 w' w.heap.size (fun k_ => some k_ ≠ (u196001 : Value).ownBlock ∧ k_ ≠ gb193 ∧ k_ ≠ gb194 ∧ k_ ≠ gb195) (.slice Ao14 t196.length co14) t196) ∧ Az_ (Kd.R k30 30 w' w.heap.size (fun k_ => k_ ≠ gb193 ∧ k_ ≠ gb194 ∧ k_ ≠ gb195) u196001 x196001_1) ∧ Az_ (w'.heap[gb193]? = some (.cells #[.int .i64 a0_0, (.slice A0_1 l0_1.length c0_1)] 30 (0, 0))) ∧ Az_ (w'.heap[gb194]? = some (.cells #[.int .i64 0, (.slice none 0 0)] 30 (0, 0))) ∧ Az_ (w'.heap[gb195]? = some (.cells #[.int .i64 a0_0, u196001] 30 (0, 0))) ∧ Az_ (Below w.heap.size w w'))
 case atStart => exact ⟨(0), (([] : List (S30))), (.slice none 0 0), (by first | rfl | (simp; done) | (simp [*]; done)), H', ⟨Nat.le_refl _⟩, ⟨by (with_reducible repeat (first | apply Kd.V_alloc | apply Kd.V_drewN | apply Kd.V_drew)); exact Kd.V_mono HO198.out (fun _ hk => ⟨(by simp [Value.ownBlock]), ⟨hk.1, ⟨hk.2.1, hk.2.2⟩⟩⟩)⟩, ⟨by first | exact Kd.R_nil _ _ _ _ _ | exact Kd.N_nil _ _ _ _ _ | exact Kd.V_nil _ _ _ _ _ | exact Kd.Q_nil _ _ _ _ _ | exact Kd.S_nil _ _ _ _ _⟩, ⟨by (with_reducible repeat (first | refine kN_ ?_ _ | refine kD_ ?_ | refine kA_ ?_ _)); exact BK193.out⟩, ⟨by (with_reducible repeat (first | refine kN_ ?_ _ | refine kD_ ?_ | refine kA_ ?_ _)); exact BK194.out⟩, ⟨by (with_reducible repeat (first | refine kN_ ?_ _ | refine kD_ ?_ | refine kA_ ?_ _)); exact BK195.out⟩, ⟨by repeat (first | (with_reducible first | exact HB.out | apply bA_ | apply bN_ | apply bD_ | refine bS_ ?_ GE193.out | refine bS_ ?_ GE194.out | refine bS_ ?_ GE195.out) | exact HB.out)⟩⟩
 case round =>
  clear H'
  try clear p2
  try clear c3
  try clear c5
  try clear c7
  try clear c8
  try clear c9
  try clear hcz10_0
  try clear hcz10_1
  try clear hcz12_0
  try clear hcz12_1
  try clear hcz6_0
  try clear hcz6_1
  try clear hfz10_0
  try clear hfz10_1
  try clear hfz12_0
  try clear hfz12_1
  try clear hfz6_0
  try clear hfz6_1
  obtain ⟨x12_1, x196001_1, u196001, rfl, HA, HK1, HO_10, HO_196001, BK193, BK194, BK195, HB⟩ := hrel
  cases gk with
  | zero => exact absurd HA.out (by simp [term_Clone.l0])
  | succ k1 =>
   have H := HA.out
   clear HA
   simp only [term_Clone.l0] at H
   by_cases c15 : x12_1 < (t196.length : Int)
   ·rw [if_pos c15] at H
    have c15b0 : decide (x12_1 < (t196.length : Int)) = true := decide_eq_true c15
    clear c15
    by_cases c16 : 0 ≤ x12_1
    ·rw [if_pos c16] at H
     have c16b0 : decide (0 ≤ x12_1) = true := decide_eq_true c16
     clear c16
     by_cases c17 : x12_1 < (t196.length : Int)
     ·rw [if_pos c17] at H
      have c17b0 : decide (x12_1 < (t196.length : Int)) = true := decide_eq_true c17
      clear c17
      replace H := Option.bind_eq_some_iff.mp H
      obtain ⟨⟨t201, t202⟩, A180, H⟩ := H
      replace H : (if x196001_1.length < 4398046511104 then (term_Clone.l0 k1 t196 (t196.length : Int) (wrap64 (x12_1 + 1)) a0_0 (x196001_1 ++ [(⟨t201, t202⟩ : S30)])) else (none)) = some (r1, r2) := H
      have A18 := Az_.mk A180
      clear A180
      by_cases c19 : x196001_1.length < 4398046511104
      ·rw [if_pos c19] at H
       have LMc19 := Az_.mk c19
       clear c19
       obtain ⟨y205, hy205⟩ : ∃ y_ : List (S30), y_ = (x196001_1 ++ [(⟨t201, t202⟩ : S30)]) := ⟨_, rfl⟩
       replace H : (term_Clone.l0 k1 t196 (t196.length : Int) (wrap64 (x12_1 + 1)) a0_0 y205) = some (r1, r2) := by first | (rw [hy205]; with_reducible exact H) | (have H2_ := (Option.bind_some _ _).symm.trans H; rw [hy205]; with_reducible exact H2_) | (have H2_ := (Option.bind_some _ _).symm.trans H; with_reducible exact H2_) | with_reducible exact H | (rw [hy205]; exact H) | exact H
       have Ny205 := Az_.mk hy205
       clear hy205
       have H' := Az_.mk H
       clear H
       have p199 : 0 ≤ (x12_1 : Int) := of_decide_eq_true (by first | (with_reducible assumption) | assumption)
       have q199 : x12_1 < (t196.length : Int) := of_decide_eq_true (by first | (with_reducible assumption) | assumption)
       obtain ⟨ad199, A199_1, c199_1, e199, hx199_0, hx199_1, hl199_1, hi199_1⟩ := at_T30 (Kd.V_reads' HO_10.out).2.2 x12_1 p199 q199
       cases e199
       obtain ⟨ce199, hce199, hMe199, hcc199⟩ := Kd.V_get HO_10.out z30 x12_1 p199 (by first | exact q199 | exact of_decide_eq_true (by first | (with_reducible assumption) | assumption) | (have e_ := (Kd.V_reads' HO_10.out).1; omega))
       obtain ⟨ua199_1, uc199_1, rfl, ul199_1, ge199_1⟩ := k30_openF hMe199
       have hv199_1 := hcc199 1 _ rfl
       rw [add_field _ _ 1 (by omega)] at hv199_1
       replace hv199_1 := Option.some.inj (hv199_1.symm.trans hx199_1)
       injection hv199_1 with hva_ hvn_ hvc_
       rw [hva_] at ge199_1
       rw [hvc_] at ul199_1
       have HL199_1 := Az_.mk (show Kd.V k30 30 _ w.heap.size _ _ ((rd_T30 t196 x12_1).f1) from Kd.V_mk ul199_1 ge199_1)
       clear hva_ hvn_ hvc_ ge199_1 ul199_1
       clear hcc199 hce199
       have HR199_1 := Az_.mk hi199_1
       have HC199_1 := Az_.mk hl199_1
       clear hi199_1 hl199_1
       replace p199 := eq_true p199
       replace q199 := eq_true q199
       try go_wp2_with (first | ((with_reducible refine yaj_ (N := 5) rfl ?_); refine yai_ ?hg (N := 5) ?hd (cs := #[.int .i64 0, .slice none 0 0]) (t := 30) ?hr ?_; (case hd => rfl); (case hg => rfl); (case hr => first | (go_simp; done) | (go_simp; rfl)); intro gb200 hg w20 hbox hb; have n0_ := Az_.mk (Kd.V_below (Kd.V_elderB (by (with_reducible repeat (first | apply Kd.V_alloc | apply Kd.V_drewN | apply Kd.V_drew)); exact HO_10.out) gb200 (Nat.le_of_eq hg.symm)) hb); have n1_ := Az_.mk (Kd.R_below (Kd.R_elderB (by (with_reducible repeat (first | apply Kd.R_alloc | apply Kd.R_drewN | apply Kd.R_drew)); exact HO_196001.out) gb200 (Nat.le_of_eq hg.symm)) hb); have n2_ := Az_.mk (Kd.V_below (Kd.V_elderB (by (with_reducible repeat (first | apply Kd.V_alloc | apply Kd.V_drewN | apply Kd.V_drew)); exact HL199_1.out) gb200 (Nat.le_of_eq hg.symm)) hb); have n3_ := Az_.mk (kB_ (g := gb193) (o := .cells #[.int .i64 a0_0, .slice A0_1 l0_1.length c0_1] 30 (0, 0)) (by (with_reducible repeat (first | refine kN_ ?_ _ | refine kD_ ?_ | refine kA_ ?_ _)); exact BK193.out) hb); have n4_ := Az_.mk (kB_ (g := gb194) (o := .cells #[.int .i64 0, .slice none 0 0] 30 (0, 0)) (by (with_reducible repeat (first | refine kN_ ?_ _ | refine kD_ ?_ | refine kA_ ?_ _)); exact BK194.out) hb); have n5_ := Az_.mk (kB_ (g := gb195) (o := .cells #[.int .i64 a0_0, u196001] 30 (0, 0)) (by (with_reducible repeat (first | refine kN_ ?_ _ | refine kD_ ?_ | refine kA_ ?_ _)); exact BK195.out) hb); have n6_ := Az_.mk (Kd.C_below (by repeat (first | (with_reducible exact HR199_1.out) | (with_reducible refine Kd.C_alloc ?_ _) | (with_reducible refine Kd.C_drewN ?_ _) | (with_reducible refine Kd.C_drew ?_) | exact HR199_1.out)) hb); have n7_ := Az_.mk (bT_ (by repeat (first | (with_reducible first | exact HB.out | apply bA_ | apply bN_ | apply bD_ | refine bS_ ?_ GE193.out | refine bS_ ?_ GE194.out | refine bS_ ?_ GE195.out) | exact HB.out)) hb); have n8_ := Az_.mk (hbox); have n9_ := Az_.mk ((by rw [hg]; exact (bZ_ (by repeat (first | (with_reducible first | exact HB.out | apply bA_ | apply bN_ | apply bD_ | refine bS_ ?_ GE193.out | refine bS_ ?_ GE194.out | refine bS_ ?_ GE195.out) | exact HB.out))) : w.heap.size ≤ gb200)); have n10_ := Az_.mk ((by rw [hg]; exact (bZ_ (by repeat (first | (with_reducible first | exact HB.out | apply bA_ | apply bN_ | apply bD_ | refine bS_ ?_ GE193.out | refine bS_ ?_ GE194.out | refine bS_ ?_ GE195.out) | exact HB.out))) : w.heap.size ≤ gb200)); have n11_ := Az_.mk ((by rw [hg]; exact Nat.ne_of_lt (blk_lt (g := gb193) (o := .cells #[.int .i64 a0_0, .slice A0_1 l0_1.length c0_1] 30 (0, 0)) (by (with_reducible repeat (first | refine kN_ ?_ _ | refine kD_ ?_ | refine kA_ ?_ _)); exact BK193.out)) : gb193 ≠ gb200)); have n12_ := Az_.mk ((by rw [hg]; exact Nat.ne_of_gt (blk_lt (g := gb193) (o := .cells #[.int .i64 a0_0, .slice A0_1 l0_1.length c0_1] 30 (0, 0)) (by (with_reducible repeat (first | refine kN_ ?_ _ | refine kD_ ?_ | refine kA_ ?_ _)); exact BK193.out)) : gb200 ≠ gb193)); have n13_ := Az_.mk ((by rw [hg]; exact Nat.ne_of_lt (blk_lt (g := gb194) (o := .cells #[.int .i64 0, .slice none 0 0] 30 (0, 0)) (by (with_reducible repeat (first | refine kN_ ?_ _ | refine kD_ ?_ | refine kA_ ?_ _)); exact BK194.out)) : gb194 ≠ gb200)); have n14_ := Az_.mk ((by rw [hg]; exact Nat.ne_of_gt (blk_lt (g := gb194) (o := .cells #[.int .i64 0, .slice none 0 0] 30 (0, 0)) (by (with_reducible repeat (first | refine kN_ ?_ _ | refine kD_ ?_ | refine kA_ ?_ _)); exact BK194.out)) : gb200 ≠ gb194)); have n15_ := Az_.mk ((by rw [hg]; exact Nat.ne_of_lt (blk_lt (g := gb195) (o := .cells #[.int .i64 a0_0, u196001] 30 (0, 0)) (by (with_reducible repeat (first | refine kN_ ?_ _ | refine kD_ ?_ | refine kA_ ?_ _)); exact BK195.out)) : gb195 ≠ gb200)); have n16_ := Az_.mk ((by rw [hg]; exact Nat.ne_of_gt (blk_lt (g := gb195) (o := .cells #[.int .i64 a0_0, u196001] 30 (0, 0)) (by (with_reducible repeat (first | refine kN_ ?_ _ | refine kD_ ?_ | refine kA_ ?_ _)); exact BK195.out)) : gb200 ≠ gb195)); clear HO_10; clear HO_196001; clear HL199_1; clear BK193; clear BK194; clear BK195; clear HR199_1; clear HB; have HO_10 := n0_; have HO_196001 := n1_; have HL199_1 := n2_; have BK193 := n3_; have BK194 := n4_; have BK195 := n5_; have HR199_1 := n6_; have HB := n7_; have BK200 := n8_; have GW200 := n9_; have GE200 := n10_; have NB193_200 := n11_; have NB200_193 := n12_; have NB194_200 := n13_; have NB200_194 := n14_; have NB195_200 := n15_; have NB200_195 := n16_; clear n0_ n1_ n2_ n3_ n4_ n5_ n6_ n7_ n8_ n9_ n10_ n11_ n12_ n13_ n14_ n15_ n16_; clear hb hbox hg; have hnb21 := NB200_193.out; have hnc21 := NB193_200.out; have hnb22 := NB200_194.out; have hnc22 := NB194_200.out; have hnb23 := NB200_195.out; have hnc23 := NB195_200.out; have hcz24_0 : w20.cell? ⟨gb200, 0, none⟩ = some (.int .i64 0) := (yaa_ BK200.out 0).trans rfl; have hcz24_1 : w20.cell? ⟨gb200, 1, none⟩ = some (.slice none 0 0) := (yaa_ BK200.out 1).trans rfl; have hfz24_0 := yab_ BK200.out 0; have hfz24_1 := yab_ BK200.out 1))
       have n0_ : Az_ (Kd.V k30 30 ((w20.setCell ⟨gb200, 0, none⟩ (.int .i64 ((rd_T30 t196 x12_1).f0))).setCell ⟨gb200, 1, none⟩ (.slice A199_1 ((rd_T30 t196 x12_1).f1).length c199_1)) w.heap.size (fun k_ => some k_ ≠ (u196001 : Value).ownBlock ∧ k_ ≠ gb193 ∧ k_ ≠ gb194 ∧ k_ ≠ gb195 ∧ k_ ≠ gb200) (.slice (some ad199) t196.length co14) t196) := ⟨by (with_reducible repeat (first | apply Kd.V_alloc | apply Kd.V_drewN | apply Kd.V_drew)); exact Kd.V_mono (Kd.V_far (p := ⟨gb200, 1, none⟩) (Kd.V_far (p := ⟨gb200, 0, none⟩) (Kd.V_mono HO_10.out (fun k_ hk => (⟨hk, hk.2⟩ : _ ∧ k_ ≠ gb200))) (fun _ hk => hk.2) (.int .i64 ((rd_T30 t196 x12_1).f0))) (fun _ hk => hk.2) (.slice A199_1 ((rd_T30 t196 x12_1).f1).length c199_1)) (fun _ hk => ⟨hk.1.1.1, ⟨hk.1.1.2.1, ⟨hk.1.1.2.2.1, ⟨hk.1.1.2.2.2, hk.1.2⟩⟩⟩⟩)⟩
       have n1_ : Az_ (Kd.R k30 30 ((w20.setCell ⟨gb200, 0, none⟩ (.int .i64 ((rd_T30 t196 x12_1).f0))).setCell ⟨gb200, 1, none⟩ (.slice A199_1 ((rd_T30 t196 x12_1).f1).length c199_1)) w.heap.size (fun k_ => k_ ≠ gb193 ∧ k_ ≠ gb194 ∧ k_ ≠ gb195 ∧ k_ ≠ gb200) u196001 x196001_1) := ⟨by (with_reducible repeat (first | apply Kd.R_alloc | apply Kd.R_drewN | apply Kd.R_drew)); exact Kd.R_mono (Kd.R_far (p := ⟨gb200, 1, none⟩) (Kd.R_far (p := ⟨gb200, 0, none⟩) (Kd.R_mono HO_196001.out (fun k_ hk => (⟨hk, hk.2⟩ : _ ∧ k_ ≠ gb200))) (fun _ hk => hk.2) (.int .i64 ((rd_T30 t196 x12_1).f0))) (fun _ hk => hk.2) (.slice A199_1 ((rd_T30 t196 x12_1).f1).length c199_1)) (fun _ hk => ⟨hk.1.1.1, ⟨hk.1.1.2.1, ⟨hk.1.1.2.2, hk.1.2⟩⟩⟩)⟩
       have n2_ : Az_ (Kd.V k30 30 ((w20.setCell ⟨gb200, 0, none⟩ (.int .i64 ((rd_T30 t196 x12_1).f0))).setCell ⟨gb200, 1, none⟩ (.slice A199_1 ((rd_T30 t196 x12_1).f1).length c199_1)) w.heap.size (fun k_ => some k_ ≠ (u196001 : Value).ownBlock ∧ k_ ≠ gb193 ∧ k_ ≠ gb194 ∧ k_ ≠ gb195 ∧ k_ ≠ gb200) (.slice A199_1 ((rd_T30 t196 x12_1).f1).length c199_1) ((rd_T30 t196 x12_1).f1)) := ⟨by (with_reducible repeat (first | apply Kd.V_alloc | apply Kd.V_drewN | apply Kd.V_drew)); exact Kd.V_mono (Kd.V_far (p := ⟨gb200, 1, none⟩) (Kd.V_far (p := ⟨gb200, 0, none⟩) (Kd.V_mono HL199_1.out (fun k_ hk => (⟨hk, hk.2⟩ : _ ∧ k_ ≠ gb200))) (fun _ hk => hk.2) (.int .i64 ((rd_T30 t196 x12_1).f0))) (fun _ hk => hk.2) (.slice A199_1 ((rd_T30 t196 x12_1).f1).length c199_1)) (fun _ hk => ⟨hk.1.1.1, ⟨hk.1.1.2.1, ⟨hk.1.1.2.2.1, ⟨hk.1.1.2.2.2, hk.1.2⟩⟩⟩⟩)⟩
       have n3_ : Az_ (((w20.setCell ⟨gb200, 0, none⟩ (.int .i64 ((rd_T30 t196 x12_1).f0))).setCell ⟨gb200, 1, none⟩ (.slice A199_1 ((rd_T30 t196 x12_1).f1).length c199_1)).heap[gb193]? = some (.cells #[.int .i64 a0_0, .slice A0_1 l0_1.length c0_1] 30 (0, 0))) := ⟨by (with_reducible repeat (first | refine kN_ ?_ _ | refine kD_ ?_ | refine kA_ ?_ _)); refine blk_far ?_ NB193_200.out _; (with_reducible repeat (first | refine kN_ ?_ _ | refine kD_ ?_ | refine kA_ ?_ _)); refine blk_far ?_ NB193_200.out _; (with_reducible repeat (first | refine kN_ ?_ _ | refine kD_ ?_ | refine kA_ ?_ _)); exact BK193.out⟩
       have n4_ : Az_ (((w20.setCell ⟨gb200, 0, none⟩ (.int .i64 ((rd_T30 t196 x12_1).f0))).setCell ⟨gb200, 1, none⟩ (.slice A199_1 ((rd_T30 t196 x12_1).f1).length c199_1)).heap[gb194]? = some (.cells #[.int .i64 0, .slice none 0 0] 30 (0, 0))) := ⟨by (with_reducible repeat (first | refine kN_ ?_ _ | refine kD_ ?_ | refine kA_ ?_ _)); refine blk_far ?_ NB194_200.out _; (with_reducible repeat (first | refine kN_ ?_ _ | refine kD_ ?_ | refine kA_ ?_ _)); refine blk_far ?_ NB194_200.out _; (with_reducible repeat (first | refine kN_ ?_ _ | refine kD_ ?_ | refine kA_ ?_ _)); exact BK194.out⟩
       have n5_ : Az_ (((w20.setCell ⟨gb200, 0, none⟩ (.int .i64 ((rd_T30 t196 x12_1).f0))).setCell ⟨gb200, 1, none⟩ (.slice A199_1 ((rd_T30 t196 x12_1).f1).length c199_1)).heap[gb195]? = some (.cells #[.int .i64 a0_0, u196001] 30 (0, 0))) := ⟨by (with_reducible repeat (first | refine kN_ ?_ _ | refine kD_ ?_ | refine kA_ ?_ _)); refine blk_far ?_ NB195_200.out _; (with_reducible repeat (first | refine kN_ ?_ _ | refine kD_ ?_ | refine kA_ ?_ _)); refine blk_far ?_ NB195_200.out _; (with_reducible repeat (first | refine kN_ ?_ _ | refine kD_ ?_ | refine kA_ ?_ _)); exact BK195.out⟩
       have n6_ : Az_ (((w20.setCell ⟨gb200, 0, none⟩ (.int .i64 ((rd_T30 t196 x12_1).f0))).setCell ⟨gb200, 1, none⟩ (.slice A199_1 ((rd_T30 t196 x12_1).f1).length c199_1)).heap[gb200]? = some (.cells #[.int .i64 ((rd_T30 t196 x12_1).f0), .slice A199_1 ((rd_T30 t196 x12_1).f1).length c199_1] 30 (0, 0))) := ⟨by (with_reducible repeat (first | refine kN_ ?_ _ | refine kD_ ?_ | refine kA_ ?_ _)); refine blk_put (cs := #[.int .i64 ((rd_T30 t196 x12_1).f0), .slice none 0 0]) ?_ 1 _ rfl; (with_reducible repeat (first | refine kN_ ?_ _ | refine kD_ ?_ | refine kA_ ?_ _)); refine blk_put (cs := #[.int .i64 0, .slice none 0 0]) ?_ 0 _ rfl; (with_reducible repeat (first | refine kN_ ?_ _ | refine kD_ ?_ | refine kA_ ?_ _)); exact BK200.out⟩
       have n7_ : Az_ (Below w.heap.size w ((w20.setCell ⟨gb200, 0, none⟩ (.int .i64 ((rd_T30 t196 x12_1).f0))).setCell ⟨gb200, 1, none⟩ (.slice A199_1 ((rd_T30 t196 x12_1).f1).length c199_1))) := ⟨by repeat (first | (with_reducible first | exact HB.out | apply bA_ | apply bN_ | apply bD_ | refine bS_ ?_ GE193.out | refine bS_ ?_ GE194.out | refine bS_ ?_ GE195.out | refine bS_ ?_ GE200.out) | exact HB.out)⟩
       (try clear HO_10)
       (try clear HO_196001)
       (try clear HL199_1)
       (try clear BK193)
       (try clear BK194)
       (try clear BK195)
       (try clear BK200)
       (try clear HB)
       generalize ((w20.setCell ⟨gb200, 0, none⟩ (.int .i64 ((rd_T30 t196 x12_1).f0))).setCell ⟨gb200, 1, none⟩ (.slice A199_1 ((rd_T30 t196 x12_1).f1).length c199_1)) = w25 at n0_ n1_ n2_ n3_ n4_ n5_ n6_ n7_ ⊢
       have HO_10 := n0_
       have HO_196001 := n1_
       have HL199_1 := n2_
       have BK193 := n3_
       have BK194 := n4_
       have BK195 := n5_
       have BK200 := n6_
       have HB := n7_
       clear n0_ n1_ n2_ n3_ n4_ n5_ n6_ n7_
       have n0_ := Az_.mk (Kd.V_drew HO_10.out)
       have n1_ := Az_.mk (Kd.R_drew HO_196001.out)
       have n2_ := Az_.mk (Kd.V_drew HL199_1.out)
       have n3_ := Az_.mk (kD_ BK193.out)
       have n4_ := Az_.mk (kD_ BK194.out)
       have n5_ := Az_.mk (kD_ BK195.out)
       have n6_ := Az_.mk (kD_ BK200.out)
       have n7_ := Az_.mk (bD_ HB.out)
       clear HO_10
       clear HO_196001
       clear HL199_1
       clear BK193
       clear BK194
       clear BK195
       clear BK200
       clear HB
       have HO_10 := n0_
       have HO_196001 := n1_
       have HL199_1 := n2_
       have BK193 := n3_
       have BK194 := n4_
       have BK195 := n5_
       have BK200 := n6_
       have HB := n7_
       clear n0_ n1_ n2_ n3_ n4_ n5_ n6_ n7_
       refine start_ (n := 8) (S := fun w' => w'.cell? ⟨gb195, 0, none⟩ = some (.int .i64 a0_0) ∧ w'.cell? ⟨gb195, 1, none⟩ = some (u196001) ∧ w'.cell? ⟨gb200, 0, none⟩ = some (.int .i64 ((rd_T30 t196 x12_1).f0)) ∧ w'.cell? ⟨gb200, 1, none⟩ = some (.slice A199_1 ((rd_T30 t196 x12_1).f1).length c199_1)) (ds := [7]) #[false, false, false, false, false, false, false, false] (by kernel_rfl) rfl rfl ⟨(yaa_ BK195.out 0).trans rfl, (yaa_ BK195.out 1).trans rfl, (yaa_ BK200.out 0).trans rfl, (yaa_ BK200.out 1).trans rfl⟩ (fun hHeld => ?_); refine with_tabW term_Clone.tab5 term_Clone.bits5 (fun HT_ HW_ => ?_)
       generalize w25.drew = w26 at HO_10 HO_196001 HL199_1 BK193 BK194 BK195 BK200 HB hHeld ⊢
       refine pure_ (i := 0) (N := some 16) (v := ?_) (a' := ?_) #[true, false, false, false, false, false, false, false] rfl rfl (any_of HT_.out (by kernel_rfl)) (fun _ _ _ h => h) (Or.inl ⟨by rfl, ?_⟩) ?_ ?_
       rotate_left
       ·intro w'
        go_simp
        with_reducible rfl
       rotate_left
       ·simp only [Act.put, sA_, sZ_, sS_, i64_w, i32_w]
        rfl
       refine take_ (i := 1) (N := some 17) (v := ?_) (a' := ?_) #[true, true, false, false, false, false, false, false] rfl rfl (yam_ HT_.out HW_.out (by kernel_rfl)) (fun _ _ _ h => h) (Or.inl ⟨by rfl, ?_⟩) hHeld ?_ ?_
       rotate_left
       ·rintro w' ⟨s0, s1, s2, s3⟩
        go_simp
        with_reducible rfl
       rotate_left
       ·simp only [Act.put, sA_, sZ_, sS_, i64_w, i32_w]
        rfl
       refine take_ (i := 2) (N := some 18) (v := ?_) (a' := ?_) #[true, true, true, false, false, false, false, false] rfl rfl (yam_ HT_.out HW_.out (by kernel_rfl)) (fun _ _ _ h => h) (Or.inl ⟨by rfl, ?_⟩) hHeld ?_ ?_
       rotate_left
       ·rintro w' ⟨s0, s1, s2, s3⟩
        go_simp
        with_reducible rfl
       rotate_left
       ·simp only [Act.put, sA_, sZ_, sS_, i64_w, i32_w]
        rfl
       refine one_ (i := 3) (N := some 19) #[true, true, true, true, false, false, false, false] rfl rfl (one_of HT_.out (by kernel_rfl)) (by decide) (fun K hK => ?_)
       refine goes_ Try.func38 (by kernel_rfl) rfl #[.agg #[.int .i64 ((rd_T30 t196 x12_1).f0), .slice A199_1 ((rd_T30 t196 x12_1).f1).length c199_1]] (by rfl) rfl rfl (by (try simp only [List.map_toArray, List.map_cons, List.map_nil]); first | done | rfl | (simp only [List.length_drop, List.length_take]; rfl)) ?_
       with_reducible refine (ih k1 (by have := HK1.out; omega) ((rd_T30 t196 x12_1).f0) _ _ ((rd_T30 t196 x12_1).f1) t201 t202 _ ?side1 ?side2 A18.out).mono ?_
       (case side1 => repeat (first | exact ((Kd.V_reads' (by (with_reducible repeat (first | apply Kd.V_alloc | apply Kd.V_drewN | apply Kd.V_drew)); exact HL199_1.out)).2.2) | (with_reducible refine Kd.C_alloc ?_ _) | (with_reducible refine Kd.C_drewN ?_ _) | (with_reducible refine Kd.C_drew ?_)))
       (case side2 => exact HC199_1.out)
       rintro e w27 ⟨v203, rfl, ho0, hb⟩
       refine ⟨_, rfl, ?_⟩
       have n0_ := Az_.mk (Kd.V_elder' (by (with_reducible repeat (first | apply Kd.V_alloc | apply Kd.V_drewN | apply Kd.V_drew)); exact HO_10.out) (Kd.R_base ho0) hb)
       have n1_ := Az_.mk (Kd.R_elder' (by (with_reducible repeat (first | apply Kd.R_alloc | apply Kd.R_drewN | apply Kd.R_drew)); exact HO_196001.out) (Kd.R_base ho0) hb)
       have n2_ := Az_.mk (Kd.V_elder' (by (with_reducible repeat (first | apply Kd.V_alloc | apply Kd.V_drewN | apply Kd.V_drew)); exact HL199_1.out) (Kd.R_base ho0) hb)
       have n3_ := Az_.mk (Kd.R_lower (Kd.R_newB (Kd.R_newB (Kd.R_newB (Kd.R_newB (Kd.R_new' ho0 (Kd.R_lt (by (with_reducible repeat (first | apply Kd.R_alloc | apply Kd.R_drewN | apply Kd.R_drew)); exact HO_196001.out))) (g := gb193) (o := .cells #[.int .i64 a0_0, .slice A0_1 l0_1.length c0_1] 30 (0, 0)) (by (with_reducible repeat (first | refine kN_ ?_ _ | refine kD_ ?_ | refine kA_ ?_ _)); exact BK193.out)) (g := gb194) (o := .cells #[.int .i64 0, .slice none 0 0] 30 (0, 0)) (by (with_reducible repeat (first | refine kN_ ?_ _ | refine kD_ ?_ | refine kA_ ?_ _)); exact BK194.out)) (g := gb195) (o := .cells #[.int .i64 a0_0, u196001] 30 (0, 0)) (by (with_reducible repeat (first | refine kN_ ?_ _ | refine kD_ ?_ | refine kA_ ?_ _)); exact BK195.out)) (g := gb200) (o := .cells #[.int .i64 ((rd_T30 t196 x12_1).f0), .slice A199_1 ((rd_T30 t196 x12_1).f1).length c199_1] 30 (0, 0)) (by (with_reducible repeat (first | refine kN_ ?_ _ | refine kD_ ?_ | refine kA_ ?_ _)); exact BK200.out)) (bZ_ (by repeat (first | (with_reducible first | exact HB.out | apply bA_ | apply bN_ | apply bD_ | refine bS_ ?_ GE193.out | refine bS_ ?_ GE194.out | refine bS_ ?_ GE195.out | refine bS_ ?_ GE200.out) | exact HB.out))))
       have n4_ := Az_.mk (kB_ (g := gb193) (o := .cells #[.int .i64 a0_0, .slice A0_1 l0_1.length c0_1] 30 (0, 0)) (by (with_reducible repeat (first | refine kN_ ?_ _ | refine kD_ ?_ | refine kA_ ?_ _)); exact BK193.out) hb)
       have n5_ := Az_.mk (kB_ (g := gb194) (o := .cells #[.int .i64 0, .slice none 0 0] 30 (0, 0)) (by (with_reducible repeat (first | refine kN_ ?_ _ | refine kD_ ?_ | refine kA_ ?_ _)); exact BK194.out) hb)
       have n6_ := Az_.mk (kB_ (g := gb195) (o := .cells #[.int .i64 a0_0, u196001] 30 (0, 0)) (by (with_reducible repeat (first | refine kN_ ?_ _ | refine kD_ ?_ | refine kA_ ?_ _)); exact BK195.out) hb)
       have n7_ := Az_.mk (kB_ (g := gb200) (o := .cells #[.int .i64 ((rd_T30 t196 x12_1).f0), .slice A199_1 ((rd_T30 t196 x12_1).f1).length c199_1] 30 (0, 0)) (by (with_reducible repeat (first | refine kN_ ?_ _ | refine kD_ ?_ | refine kA_ ?_ _)); exact BK200.out) hb)
       have n8_ := Az_.mk (bT_ (by repeat (first | (with_reducible first | exact HB.out | apply bA_ | apply bN_ | apply bD_ | refine bS_ ?_ GE193.out | refine bS_ ?_ GE194.out | refine bS_ ?_ GE195.out | refine bS_ ?_ GE200.out) | exact HB.out)) hb)
       clear HO_10
       clear HO_196001
       clear HL199_1
       clear BK193
       clear BK194
       clear BK195
       clear BK200
       clear HB
       have HO_10 := n0_
       have HO_196001 := n1_
       have HL199_1 := n2_
       have HO204 := n3_
       have BK193 := n4_
       have BK194 := n5_
       have BK195 := n6_
       have BK200 := n7_
       have HB := n8_
       clear n0_ n1_ n2_ n3_ n4_ n5_ n6_ n7_ n8_
       (try clear hb)
       (try clear hb2)
       (try clear hk)
       (try clear hi)
       (try clear ho0)
       obtain ⟨Ao29, co29, eo29⟩ := Kd.R_slice HO204.out
       (first | subst eo29 | (injection eo29 with f1_ f2_ f3_; have f4_ := f1_.symm; have f5_ := f3_.symm; clear f1_ f2_ f3_; subst f4_; subst f5_))
       refine hK.out _ _ ⟨(yaa_ BK195.out 0).trans rfl, (yaa_ BK195.out 1).trans rfl, (yaa_ BK200.out 0).trans rfl, (yaa_ BK200.out 1).trans rfl⟩ (fun hHeld => ?_)
       clear hK K
       refine norm_ (a' := ?_) ?_ ?_
       rotate_left
       ·show Act.put _ (some 19) _ = _
        simp only [Act.put, sA_, sZ_, sS_, i64_w, i32_w]
        rfl
       refine one_ (i := 4) (N := some 20) #[true, true, true, true, true, false, false, false] rfl rfl (one_of HT_.out (by kernel_rfl)) (by decide) (fun K hK => ?_)
       refine value_ (w1 := ?_) (v := ?_) (by rfl) rfl ?_ ?_
       rotate_left 2
       ·go_simp
        constructor
        ·rfl
        ·rfl
       refine hK.out _ _ ⟨(yaa_ (kA_ BK195.out _) 0).trans rfl, (yaa_ (kA_ BK195.out _) 1).trans rfl, (yaa_ (kA_ BK200.out _) 0).trans rfl, (yaa_ (kA_ BK200.out _) 1).trans rfl⟩ (fun hHeld => ?_)
       clear hK K
       refine norm_ (a' := ?_) ?_ ?_
       rotate_left
       ·show Act.put _ (some 20) _ = _
        simp only [Act.put, sA_, sZ_, sS_, i64_w, i32_w]
        rfl
       refine one_ (i := 5) (N := some 21) #[true, true, true, true, true, true, false, false] rfl rfl (one_of HT_.out (by kernel_rfl)) (by decide) (fun K hK => ?_)
       refine Kd.R_append_step k30 (w0 := w) w.heap.size (by rfl) (.tmp 17) (.tmp 20) 28 30 (.agg #[(.int .i64 0), (.slice none 0 0)]) 32 rfl Try.underlying28 info30 rfl (by decide) (by omega) u196001 x196001_1 (⟨t201, t202⟩ : S30) [.int .i64 t201, .slice Ao29 t202.length co29] (fun k_ => k_ ≠ gb193 ∧ k_ ≠ gb194 ∧ k_ ≠ gb195 ∧ k_ ≠ gb200) (fun k_ => ((fun k_ => k_ ≠ gb193 ∧ k_ ≠ gb194 ∧ k_ ≠ gb195 ∧ k_ ≠ gb200)) k_ ∧ some k_ ≠ (u196001 : Value).ownBlock) rfl rfl ?aP (fun _ hk => hk) ?aF ?aO ?aB ?aS ?aL ?_
       (case aP => exact k30_mkM _ _ _ (⟨t201, t202⟩ : S30) (Kd.R_mono (HO204.out) (fun k_ hk => ⟨⟨hk.1.1.1.2, ⟨hk.1.1.2, ⟨hk.1.2, hk.2⟩⟩⟩, hk.1.1.1.1.2⟩)))
       (case aB => exact (by repeat (first | (with_reducible first | exact HB.out | apply bA_ | apply bN_ | apply bD_ | refine bS_ ?_ GE193.out | refine bS_ ?_ GE194.out | refine bS_ ?_ GE195.out | refine bS_ ?_ GE200.out) | exact HB.out)))
       (case aF => exact (fun k_ hk => ⟨Kd.freshB (g := gb193) (o := .cells #[.int .i64 a0_0, .slice A0_1 l0_1.length c0_1] 30 (0, 0)) (by (with_reducible repeat (first | refine kN_ ?_ _ | refine kD_ ?_ | refine kA_ ?_ _)); exact BK193.out) k_ hk, Kd.freshB (g := gb194) (o := .cells #[.int .i64 0, .slice none 0 0] 30 (0, 0)) (by (with_reducible repeat (first | refine kN_ ?_ _ | refine kD_ ?_ | refine kA_ ?_ _)); exact BK194.out) k_ hk, Kd.freshB (g := gb195) (o := .cells #[.int .i64 a0_0, u196001] 30 (0, 0)) (by (with_reducible repeat (first | refine kN_ ?_ _ | refine kD_ ?_ | refine kA_ ?_ _)); exact BK195.out) k_ hk, Kd.freshB (g := gb200) (o := .cells #[.int .i64 ((rd_T30 t196 x12_1).f0), .slice A199_1 ((rd_T30 t196 x12_1).f1).length c199_1] 30 (0, 0)) (by (with_reducible repeat (first | refine kN_ ?_ _ | refine kD_ ?_ | refine kA_ ?_ _)); exact BK200.out) k_ hk⟩))
       (case aO => exact (by (with_reducible repeat (first | apply Kd.R_alloc | apply Kd.R_drewN | apply Kd.R_drew)); exact Kd.R_mono HO_196001.out (fun _ hk => ⟨hk.1.1, ⟨hk.1.2.1, ⟨hk.1.2.2.1, hk.1.2.2.2⟩⟩⟩)))
       (case aS => exact (bZ_ (by repeat (first | (with_reducible first | exact HB.out | apply bA_ | apply bN_ | apply bD_ | refine bS_ ?_ GE193.out | refine bS_ ?_ GE194.out | refine bS_ ?_ GE195.out | refine bS_ ?_ GE200.out) | exact HB.out))))
       (case aL => have := LMc19.out; omega)
       intro v206 w28 ho hb hg hat
       rw [← Ny205.out] at ho
       have n0_ := Az_.mk (Kd.V_afterv (ok := (fun k_ => some k_ ≠ (.slice Ao29 t202.length co29 : Value).ownBlock ∧ k_ ≠ gb193 ∧ k_ ≠ gb194 ∧ k_ ≠ gb195 ∧ k_ ≠ gb200)) (by (with_reducible repeat (first | apply Kd.V_alloc | apply Kd.V_drewN | apply Kd.V_drew)); exact Kd.V_mono HO_10.out (fun _ hk => ⟨⟨hk.2, ⟨hk.1.2.1, ⟨hk.1.2.2.1, ⟨hk.1.2.2.2.1, hk.1.2.2.2.2⟩⟩⟩⟩, hk.1.1⟩)) hg hat)
       have n1_ := Az_.mk (blk_grown (g := gb193) (o := .cells #[.int .i64 a0_0, .slice A0_1 l0_1.length c0_1] 30 (0, 0)) (by (with_reducible repeat (first | refine kN_ ?_ _ | refine kD_ ?_ | refine kA_ ?_ _)); exact BK193.out) hg (Kd.R_away HO_196001.out (fun _ hk => hk.1.1)))
       have n2_ := Az_.mk (blk_grown (g := gb194) (o := .cells #[.int .i64 0, .slice none 0 0] 30 (0, 0)) (by (with_reducible repeat (first | refine kN_ ?_ _ | refine kD_ ?_ | refine kA_ ?_ _)); exact BK194.out) hg (Kd.R_away HO_196001.out (fun _ hk => hk.1.2.1)))
       have n3_ := Az_.mk (blk_grown (g := gb195) (o := .cells #[.int .i64 a0_0, u196001] 30 (0, 0)) (by (with_reducible repeat (first | refine kN_ ?_ _ | refine kD_ ?_ | refine kA_ ?_ _)); exact BK195.out) hg (Kd.R_away HO_196001.out (fun _ hk => hk.1.2.2.1)))
       have n4_ := Az_.mk (Kd.V_afterv (ok := (fun k_ => some k_ ≠ (.slice Ao29 t202.length co29 : Value).ownBlock ∧ k_ ≠ gb193 ∧ k_ ≠ gb194 ∧ k_ ≠ gb195 ∧ k_ ≠ gb200)) (by (with_reducible repeat (first | apply Kd.V_alloc | apply Kd.V_drewN | apply Kd.V_drew)); exact Kd.V_mono HL199_1.out (fun _ hk => ⟨⟨hk.2, ⟨hk.1.2.1, ⟨hk.1.2.2.1, ⟨hk.1.2.2.2.1, hk.1.2.2.2.2⟩⟩⟩⟩, hk.1.1⟩)) hg hat)
       have n5_ := Az_.mk (blk_grown (g := gb200) (o := .cells #[.int .i64 ((rd_T30 t196 x12_1).f0), .slice A199_1 ((rd_T30 t196 x12_1).f1).length c199_1] 30 (0, 0)) (by (with_reducible repeat (first | refine kN_ ?_ _ | refine kD_ ?_ | refine kA_ ?_ _)); exact BK200.out) hg (Kd.R_away HO_196001.out (fun _ hk => hk.1.2.2.2)))
       have n6_ := Az_.mk (hb)
       have n7_ := Az_.mk (ho)
       clear HO_10
       clear BK193
       clear BK194
       clear BK195
       clear HL199_1
       clear BK200
       clear HB
       clear HO_196001
       clear HO204
       have HO_10 := n0_
       have BK193 := n1_
       have BK194 := n2_
       have BK195 := n3_
       have HL199_1 := n4_
       have BK200 := n5_
       have HB := n6_
       have HO207 := n7_
       clear n0_ n1_ n2_ n3_ n4_ n5_ n6_ n7_
       clear ho hb hg hat
       obtain ⟨Ao30, co30, eo30⟩ := Kd.R_slice HO207.out
       (first | subst eo30 | (injection eo30 with f1_ f2_ f3_; have f4_ := f1_.symm; have f5_ := f3_.symm; clear f1_ f2_ f3_; subst f4_; subst f5_))
       refine hK.out _ _ ⟨(yaa_ BK195.out 0).trans rfl, (yaa_ BK195.out 1).trans rfl, (yaa_ BK200.out 0).trans rfl, (yaa_ BK200.out 1).trans rfl⟩ (fun hHeld => ?_)
       clear hK K
       refine norm_ (a' := ?_) ?_ ?_
       rotate_left
       ·show Act.put _ (some 21) _ = _
        simp only [Act.put, sA_, sZ_, sS_, i64_w, i32_w]
        rfl
       refine pure_ (i := 6) (N := some 22) (v := ?_) (a' := ?_) #[true, true, true, true, true, true, true, false] rfl rfl (any_of HT_.out (by kernel_rfl)) (fun _ _ _ h => h) (Or.inl ⟨by rfl, ?_⟩) ?_ ?_
       rotate_left
       ·intro w'
        go_simp
        with_reducible rfl
       rotate_left
       ·simp only [Act.put, sA_, sZ_, sS_, i64_w, i32_w]
        rfl
       refine last_ (i := 7) (N := none) #[true, true, true, true, true, true, true, true] rfl rfl (one_of HT_.out (by kernel_rfl)) (by decide) (fun K hK => ?_)
       have hs31 : w28.cell? ⟨gb195, 1, none⟩ = some (u196001) := (yaa_ BK195.out 1).trans rfl
       have hfs31 := yab_ BK195.out 1
       have hns31_0 := NB193_195.out
       have hns31_1 := NB194_195.out
       have hns31_3 := NB200_195.out
       have hms31_0 := NB195_193.out
       have hms31_1 := NB195_194.out
       have hms31_3 := NB195_200.out
       refine skip_ (w1 := ?_) (by rfl) rfl ?_ ?_
       rotate_left
       ·go_simp
        rfl
       refine hK.out _ _ ?_
       clear hK K
       refine done_ (done_of HT_.out (by kernel_rfl)) ?_
       try go_wp2
       go_roundg k1
       case measure => have := HK1.out; omega
       case rel => exact ⟨(wrap64 (x12_1 + 1)), (y205), (.slice Ao30 y205.length co30), (by first | rfl | (simp; done) | (simp [*]; done)), H', ⟨by have := HK1.out; omega⟩, ⟨by (with_reducible repeat (first | apply Kd.V_alloc | apply Kd.V_drewN | apply Kd.V_drew)); exact Kd.V_mono (Kd.V_far (p := ⟨gb195, 1, none⟩) (Kd.V_mono HO_10.out (fun k_ hk => (⟨hk, hk.1.2.2.2.1⟩ : _ ∧ k_ ≠ gb195))) (fun _ hk => hk.2) (.slice Ao30 y205.length co30)) (fun _ hk => ⟨hk.1.2, ⟨hk.1.1.2.1, ⟨hk.1.1.2.2.1, hk.1.1.2.2.2.1⟩⟩⟩)⟩, ⟨by (with_reducible repeat (first | apply Kd.R_alloc | apply Kd.R_drewN | apply Kd.R_drew)); exact Kd.R_mono (Kd.R_far (p := ⟨gb195, 1, none⟩) (Kd.R_mono HO207.out (fun k_ hk => (⟨hk, hk.2.2.1⟩ : _ ∧ k_ ≠ gb195))) (fun _ hk => hk.2) (.slice Ao30 y205.length co30)) (fun _ hk => ⟨hk.1.1, ⟨hk.1.2.1, hk.1.2.2.1⟩⟩)⟩, ⟨by (with_reducible repeat (first | refine kN_ ?_ _ | refine kD_ ?_ | refine kA_ ?_ _)); refine blk_far ?_ NB193_195.out _; (with_reducible repeat (first | refine kN_ ?_ _ | refine kD_ ?_ | refine kA_ ?_ _)); exact BK193.out⟩, ⟨by (with_reducible repeat (first | refine kN_ ?_ _ | refine kD_ ?_ | refine kA_ ?_ _)); refine blk_far ?_ NB194_195.out _; (with_reducible repeat (first | refine kN_ ?_ _ | refine kD_ ?_ | refine kA_ ?_ _)); exact BK194.out⟩, ⟨by (with_reducible repeat (first | refine kN_ ?_ _ | refine kD_ ?_ | refine kA_ ?_ _)); refine blk_put (cs := #[.int .i64 a0_0, u196001]) ?_ 1 _ rfl; (with_reducible repeat (first | refine kN_ ?_ _ | refine kD_ ?_ | refine kA_ ?_ _)); exact BK195.out⟩, ⟨by repeat (first | (with_reducible first | exact HB.out | apply bA_ | apply bN_ | apply bD_ | refine bS_ ?_ GE193.out | refine bS_ ?_ GE194.out | refine bS_ ?_ GE195.out | refine bS_ ?_ GE200.out) | exact HB.out)⟩⟩
      ·rw [if_neg c19] at H
       exact absurd H (by simp)
     ·rw [if_neg c17] at H
      exact absurd H (by simp)
    ·rw [if_neg c16] at H
     exact absurd H (by simp)
   ·rw [if_neg c15] at H
    have c15b0 : decide (x12_1 < (t196.length : Int)) = false := decide_eq_false c15
    clear c15
    simp only [Option.some.injEq, Prod.mk.injEq] at H
    obtain ⟨rfl, rfl⟩ := H
    have hnb32 := NB195_193.out
    have hnc32 := NB193_195.out
    have hnb33 := NB195_194.out
    have hnc33 := NB194_195.out
    have hcz34_0 : wr.cell? ⟨gb195, 0, none⟩ = some (.int .i64 a0_0) := (yaa_ BK195.out 0).trans rfl
    have hcz34_1 : wr.cell? ⟨gb195, 1, none⟩ = some (u196001) := (yaa_ BK195.out 1).trans rfl
    have hfz34_0 := yab_ BK195.out 0
    have hfz34_1 := yab_ BK195.out 1
    have hnb35 := NB194_193.out
    have hnc35 := NB193_194.out
    have hcz36_0 : wr.cell? ⟨gb194, 0, none⟩ = some (.int .i64 0) := (yaa_ BK194.out 0).trans rfl
    have hcz36_1 : wr.cell? ⟨gb194, 1, none⟩ = some (.slice none 0 0) := (yaa_ BK194.out 1).trans rfl
    have hfz36_0 := yab_ BK194.out 0
    have hfz36_1 := yab_ BK194.out 1
    obtain ⟨Ao37, co37, eo37⟩ := Kd.R_slice HO_196001.out
    subst eo37
    go_wp2
    refine bodyPost_ret (results_cell_row rfl _ _ gb194 30 #[.int .i64 a0_0, .slice Ao37 x196001_1.length co37] (0, 0) _ rfl (by (with_reducible repeat (first | refine kN_ ?_ _ | refine kD_ ?_ | refine kA_ ?_ _)); refine blk_put (cs := #[.int .i64 a0_0, .slice none 0 0]) ?_ 1 _ rfl; (with_reducible repeat (first | refine kN_ ?_ _ | refine kD_ ?_ | refine kA_ ?_ _)); refine blk_put (cs := #[.int .i64 0, .slice none 0 0]) ?_ 0 _ rfl; (with_reducible repeat (first | refine kN_ ?_ _ | refine kD_ ?_ | refine kA_ ?_ _)); exact BK194.out) Try.underlying30 rfl (by kernel_rfl)) rfl ?_
    exact ⟨_, by first | rfl | (simp [yae_, yad_] <;> rfl) | (simp [*, yae_, yad_] <;> rfl), by (with_reducible repeat (first | apply Kd.R_alloc | apply Kd.R_drewN | apply Kd.R_drew)); exact Kd.R_mono (Kd.R_far (p := ⟨gb194, 1, none⟩) (Kd.R_far (p := ⟨gb194, 0, none⟩) (Kd.R_mono HO_196001.out (fun k_ hk => (⟨hk, hk.2.1⟩ : _ ∧ k_ ≠ gb194))) (fun _ hk => hk.2) (.int .i64 a0_0)) (fun _ hk => hk.2) (.slice Ao37 x196001_1.length co37)) (fun _ hk => trivial), by repeat (first | (with_reducible first | exact HB.out | apply bA_ | apply bN_ | apply bD_ | refine bS_ ?_ GE193.out | refine bS_ ?_ GE194.out | refine bS_ ?_ GE195.out) | exact HB.out)⟩
end
section
attribute [local go_sem] yaq_ yao_ max_two min_two yal_ yak_ yap_ yan_
def term_Same.f (a0_0 : Int) (l0_1 : List (S30)) (a1_0 : Int) (l1_1 : List (S30)) : Option (Bool) := (term_Compare.f a0_0 l0_1 a1_0 l1_1).bind fun t263 => (some (t263 == 0))
set_option maxHeartbeats 8000000 in
set_option maxRecDepth 100000 in
theorem term_Same.calls (a0_0 : Int) (A0_1 : Option Addr) (c0_1 : Nat) (l0_1 : List (S30)) (a1_0 : Int) (A1_1 : Option Addr) (c1_1 : Nat) (l1_1 : List (S30)) (r : Bool) (w : World) (hr0_1 : Kd.C k30 w A0_1 l0_1.length l0_1) (hc0_1 : l0_1.length ≤ c0_1) (hr1_1 : Kd.C k30 w A1_1 l1_1.length l1_1) (hc1_1 : l1_1.length ≤ c1_1) (h : term_Same.f a0_0 l0_1 a1_0 l1_1 = some r) :
  Calls Try.prog 37 #[.agg #[.int .i64 a0_0, .slice A0_1 l0_1.length c0_1], .agg #[.int .i64 a1_0, .slice A1_1 l1_1.length c1_1]] w fun e w' => e = .returned (.bool r) ∧ Below w.heap.size w w' := by
 have hu30 := Try.underlying30
 have HR0_1 := Az_.mk hr0_1
 have HC0_1 := Az_.mk hc0_1
 clear hr0_1 hc0_1
 have HR1_1 := Az_.mk hr1_1
 have HC1_1 := Az_.mk hc1_1
 clear hr1_1 hc1_1
 have HB := Az_.mk (Below.refl w.heap.size w)
 have H : ((term_Compare.f a0_0 l0_1 a1_0 l1_1).bind fun t263 => (some (t263 == 0))) = some r := h
 clear h
 replace H := Option.bind_eq_some_iff.mp H
 obtain ⟨t263, A30, H⟩ := H
 replace H : (some (t263 == 0)) = some r := H
 have A3 := Az_.mk A30
 clear A30
 obtain rfl := Option.some.inj H
 go_enter Try.func37, Try.ntmps37
 go_wp2_with (first | ((with_reducible refine yaj_ (N := 2) rfl ?_); refine yai_ ?hg (N := 2) ?hd (cs := #[.int .i64 a0_0, .slice A0_1 l0_1.length c0_1]) (t := 30) ?hr ?_; (case hd => rfl); (case hg => rfl); (case hr => first | (go_simp; done) | (go_simp; rfl)); intro gb261 hg w4 hbox hb; have n0_ := Az_.mk (bT_ (by repeat (first | (with_reducible first | exact HB.out | apply bA_ | apply bN_ | apply bD_) | exact HB.out)) hb); have n1_ := Az_.mk (hbox); have n2_ := Az_.mk ((by rw [hg]; exact (bZ_ (by repeat (first | (with_reducible first | exact HB.out | apply bA_ | apply bN_ | apply bD_) | exact HB.out))) : w.heap.size ≤ gb261)); have n3_ := Az_.mk ((by rw [hg]; exact (bZ_ (by repeat (first | (with_reducible first | exact HB.out | apply bA_ | apply bN_ | apply bD_) | exact HB.out))) : w.heap.size ≤ gb261)); clear HB; have HB := n0_; have BK261 := n1_; have GW261 := n2_; have GE261 := n3_; clear n0_ n1_ n2_ n3_; clear hb hbox hg) | ((with_reducible refine yaj_ (N := 3) rfl ?_); refine yai_ ?hg (N := 3) ?hd (cs := #[.int .i64 a1_0, .slice A1_1 l1_1.length c1_1]) (t := 30) ?hr ?_; (case hd => rfl); (case hg => rfl); (case hr => first | (go_simp; done) | (go_simp; rfl)); intro gb262 hg w5 hbox hb; have n0_ := Az_.mk (kB_ (g := gb261) (o := .cells #[.int .i64 a0_0, .slice A0_1 l0_1.length c0_1] 30 (0, 0)) (by (with_reducible repeat (first | refine kN_ ?_ _ | refine kD_ ?_ | refine kA_ ?_ _)); exact BK261.out) hb); have n1_ := Az_.mk (bT_ (by repeat (first | (with_reducible first | exact HB.out | apply bA_ | apply bN_ | apply bD_ | refine bS_ ?_ GE261.out) | exact HB.out)) hb); have n2_ := Az_.mk (hbox); have n3_ := Az_.mk ((by rw [hg]; exact (bZ_ (by repeat (first | (with_reducible first | exact HB.out | apply bA_ | apply bN_ | apply bD_ | refine bS_ ?_ GE261.out) | exact HB.out))) : w.heap.size ≤ gb262)); have n4_ := Az_.mk ((by rw [hg]; exact (bZ_ (by repeat (first | (with_reducible first | exact HB.out | apply bA_ | apply bN_ | apply bD_ | refine bS_ ?_ GE261.out) | exact HB.out))) : w.heap.size ≤ gb262)); have n5_ := Az_.mk ((by rw [hg]; exact Nat.ne_of_lt (blk_lt (g := gb261) (o := .cells #[.int .i64 a0_0, .slice A0_1 l0_1.length c0_1] 30 (0, 0)) (by (with_reducible repeat (first | refine kN_ ?_ _ | refine kD_ ?_ | refine kA_ ?_ _)); exact BK261.out)) : gb261 ≠ gb262)); have n6_ := Az_.mk ((by rw [hg]; exact Nat.ne_of_gt (blk_lt (g := gb261) (o := .cells #[.int .i64 a0_0, .slice A0_1 l0_1.length c0_1] 30 (0, 0)) (by (with_reducible repeat (first | refine kN_ ?_ _ | refine kD_ ?_ | refine kA_ ?_ _)); exact BK261.out)) : gb262 ≠ gb261)); clear BK261; clear HB; have BK261 := n0_; have HB := n1_; have BK262 := n2_; have GW262 := n3_; have GE262 := n4_; have NB261_262 := n5_; have NB262_261 := n6_; clear n0_ n1_ n2_ n3_ n4_ n5_ n6_; clear hb hbox hg; have hnb6 := NB261_262.out; have hnc6 := NB262_261.out; have hcz7_0 : w5.cell? ⟨gb261, 0, none⟩ = some (.int .i64 a0_0) := (yaa_ BK261.out 0).trans rfl; have hcz7_1 : w5.cell? ⟨gb261, 1, none⟩ = some (.slice A0_1 l0_1.length c0_1) := (yaa_ BK261.out 1).trans rfl; have hfz7_0 := yab_ BK261.out 0; have hfz7_1 := yab_ BK261.out 1; have hcz8_0 : w5.cell? ⟨gb262, 0, none⟩ = some (.int .i64 a1_0) := (yaa_ BK262.out 0).trans rfl; have hcz8_1 : w5.cell? ⟨gb262, 1, none⟩ = some (.slice A1_1 l1_1.length c1_1) := (yaa_ BK262.out 1).trans rfl; have hfz8_0 := yab_ BK262.out 0; have hfz8_1 := yab_ BK262.out 1) | ((with_reducible refine yah_ (f := 36) rfl ?_); refine goesL_ (some 7) rfl rfl Try.func36 (by kernel_rfl) rfl #[.agg #[.int .i64 a0_0, .slice A0_1 l0_1.length c0_1], .agg #[.int .i64 a1_0, .slice A1_1 l1_1.length c1_1]] rfl (by (try simp only [List.map_toArray, List.map_cons, List.map_nil]); first | done | rfl | (simp only [List.length_drop, List.length_take]; rfl)) ?_; (with_reducible refine (term_Compare.calls a0_0 _ _ l0_1 a1_0 _ _ l1_1 t263 _ ?side1 ?side2 ?side3 ?side4 A3.out).mono ?_); (case side1 => repeat (first | exact (Kd.C_below HR0_1.out HB.out) | (with_reducible refine Kd.C_alloc ?_ _) | (with_reducible refine Kd.C_drewN ?_ _) | (with_reducible refine Kd.C_drew ?_))); (case side2 => exact HC0_1.out); (case side3 => repeat (first | exact (Kd.C_below HR1_1.out HB.out) | (with_reducible refine Kd.C_alloc ?_ _) | (with_reducible refine Kd.C_drewN ?_ _) | (with_reducible refine Kd.C_drew ?_))); (case side4 => exact HC1_1.out); rintro e w9 ⟨rfl, hb⟩; refine ⟨_, rfl, ?_⟩; have n0_ := Az_.mk (kB_ (g := gb261) (o := .cells #[.int .i64 a0_0, .slice A0_1 l0_1.length c0_1] 30 (0, 0)) (by (with_reducible repeat (first | refine kN_ ?_ _ | refine kD_ ?_ | refine kA_ ?_ _)); exact BK261.out) hb); have n1_ := Az_.mk (kB_ (g := gb262) (o := .cells #[.int .i64 a1_0, .slice A1_1 l1_1.length c1_1] 30 (0, 0)) (by (with_reducible repeat (first | refine kN_ ?_ _ | refine kD_ ?_ | refine kA_ ?_ _)); exact BK262.out) hb); have n2_ := Az_.mk (bT_ (by repeat (first | (with_reducible first | exact HB.out | apply bA_ | apply bN_ | apply bD_ | refine bS_ ?_ GE261.out | refine bS_ ?_ GE262.out) | exact HB.out)) hb); clear BK261; clear BK262; clear HB; have BK261 := n0_; have BK262 := n1_; have HB := n2_; clear n0_ n1_ n2_; (try clear hb); (try clear hb2); (try clear hk); (try clear hi)))
 go_ret
 exact ⟨by first | rfl | (simp [yae_, yad_] <;> rfl) | (simp [*, yae_, yad_] <;> rfl), by repeat (first | (with_reducible first | exact HB.out | apply bA_ | apply bN_ | apply bD_ | refine bS_ ?_ GE261.out | refine bS_ ?_ GE262.out) | exact HB.out)⟩
end
section
theorem cmpI_neg (a b : Int) : cmpI b a = - cmpI a b := by unfold cmpI; (repeat' split) <;> omega
theorem cmpI_self (a : Int) : cmpI a a = 0 := by unfold cmpI; (repeat' split) <;> omega
theorem orI_neg (a b c : Int) : orI (-a) (-b) (-c) = - orI a b c := by unfold orI; (repeat' split) <;> omega
theorem cmp_anti : ∀ x y : S30, cmpT y x = - cmpT x y := by
 refine S30.ind ?_
 intro f l ih y
 obtain ⟨g, m⟩ := y
 have hl : ∀ (l : List S30), (∀ x ∈ l, ∀ y, cmpT y x = - cmpT x y) → ∀ m, cmpTs m l = - cmpTs l m := by
  intro l
  induction l with
  | nil => intro _ m; cases m <;> simp [cmpTs]
  | cons x l ihl =>
   intro h m
   cases m with
   | nil => simp [cmpTs]
   | cons y m =>
    have h1 := h x (by simp) y
    have h2 := ihl (fun x hx => h x (by simp [hx])) m
    simp only [cmpTs, h1, h2]
    by_cases h0 : cmpT x y = 0
    ·simp [h0]
    ·rw [if_neg (by omega), if_neg h0]
 simp only [cmpT]
 by_cases h1 : f < 0 ∨ g < 0
 ·rw [if_pos h1, if_pos h1.symm]
  by_cases h2 : f < 0 ∧ g < 0
  ·rw [if_pos h2, if_pos h2.symm]; exact cmpI_neg g f
  ·rw [if_neg h2, if_neg (fun h => h2 h.symm)]; exact cmpI_neg f g
 ·rw [if_neg h1, if_neg (fun h => h1 h.symm), hl l ih m, cmpI_neg f g, cmpI_neg (l.length : Int) m.length, orI_neg]
theorem cmp_self : ∀ x : S30, cmpT x x = 0 := by
 intro x
 have := cmp_anti x x
 omega
def T3 (p q r : Int) : Prop := p ≤ 0 → q ≤ 0 → r ≤ 0 ∧ (r = 0 ↔ p = 0 ∧ q = 0)
theorem T3.cmpI (a b c : Int) : T3 (cmpI a b) (cmpI b c) (cmpI a c) := by unfold T3 P.cmpI; (repeat' split) <;> omega
theorem orI_spec (a b c : Int) : (a ≠ 0 ∧ orI a b c = a) ∨ (a = 0 ∧ b ≠ 0 ∧ orI a b c = b) ∨ (a = 0 ∧ b = 0 ∧ orI a b c = c) := by unfold orI; (repeat' split) <;> omega
theorem T3.or {p q r p' q' r' p2 q2 r2 : Int} (h : T3 p q r) (h' : T3 p' q' r') (h2 : T3 p2 q2 r2) : T3 (orI p p' p2) (orI q q' q2) (orI r r' r2) := by
 have e1 := orI_spec p p' p2
 have e2 := orI_spec q q' q2
 have e3 := orI_spec r r' r2
 generalize orI p p' p2 = P at e1 ⊢
 generalize orI q q' q2 = Q at e2 ⊢
 generalize orI r r' r2 = R at e3 ⊢
 unfold T3 at *
 rcases e1 with e1 | e1 | e1 <;> rcases e2 with e2 | e2 | e2 <;> rcases e3 with e3 | e3 | e3 <;> intro h3 h4 <;> omega
theorem pick_spec (a b : Int) : (a = 0 ∧ (if a = 0 then b else a) = b) ∨ (a ≠ 0 ∧ (if a = 0 then b else a) = a) := by split <;> omega
theorem T3.pick {p q r p' q' r' : Int} (h : T3 p q r) (h' : T3 p' q' r') : T3 (if p = 0 then p' else p) (if q = 0 then q' else q) (if r = 0 then r' else r) := by
 have e1 := pick_spec p p'
 have e2 := pick_spec q q'
 have e3 := pick_spec r r'
 generalize (if p = 0 then p' else p) = P at e1 ⊢
 generalize (if q = 0 then q' else q) = Q at e2 ⊢
 generalize (if r = 0 then r' else r) = R at e3 ⊢
 unfold T3 at *
 rcases e1 with e1 | e1 <;> rcases e2 with e2 | e2 <;> rcases e3 with e3 | e3 <;> intro h3 h4 <;> omega
theorem cmp_trans : ∀ x y z : S30, T3 (cmpT x y) (cmpT y z) (cmpT x z) := by
 refine S30.ind ?_
 intro f l ih y z
 obtain ⟨g, m⟩ := y
 obtain ⟨h, n⟩ := z
 have hl : ∀ (l : List S30), (∀ x ∈ l, ∀ y z, T3 (cmpT x y) (cmpT y z) (cmpT x z)) → ∀ m n, T3 (cmpTs l m) (cmpTs m n) (cmpTs l n) := by
  intro l
  induction l with
  | nil =>
   intro _ m n
   cases m <;> cases n <;> simp [cmpTs, T3]
  | cons x l ihl =>
   intro h m n
   cases m with
   | nil => cases n <;> simp [cmpTs, T3]
   | cons y m =>
    cases n with
    | nil => simp [cmpTs, T3]
    | cons z n =>
     have h1 := h x (by simp) y z
     have h2 := ihl (fun x hx => h x (by simp [hx])) m n
     simp only [cmpTs]
     exact T3.pick h1 h2
 simp only [cmpT]
 by_cases hf : f < 0 <;> by_cases hg : g < 0 <;> by_cases hh : h < 0 <;> simp only [hf, hg, hh, true_or, or_true, true_and, and_true, false_or, or_false, and_false, false_and, and_self, or_self, if_true, if_false]
 ·unfold T3 cmpI; (repeat' split) <;> omega
 ·unfold T3 cmpI; (repeat' split) <;> omega
 ·unfold T3 cmpI; (repeat' split) <;> omega
 ·have e1 := orI_spec (cmpI g h) (cmpI m.length n.length) (cmpTs m n); generalize orI (cmpI g h) (cmpI m.length n.length) (cmpTs m n) = X at e1 ⊢; unfold T3 cmpI at *; (repeat' split) <;> omega
 ·unfold T3 cmpI; (repeat' split) <;> omega
 ·unfold T3 cmpI; (repeat' split) <;> omega
 ·have e1 := orI_spec (cmpI f g) (cmpI l.length m.length) (cmpTs l m); generalize orI (cmpI f g) (cmpI l.length m.length) (cmpTs l m) = X at e1 ⊢; unfold T3 cmpI at *; (repeat' split) <;> omega
 ·exact T3.or (T3.cmpI f g h) (T3.cmpI _ _ _) (hl l ih m n)
mutual
def cloneT : S30 → S30
 | ⟨f, l⟩ => ⟨f, if f < 0 then [] else cloneTs l⟩
def cloneTs : List S30 → List S30
 | [] => []
 | x :: r => cloneT x :: cloneTs r
end
theorem cloneTs_eq (l : List S30) : cloneTs l = l.map cloneT := by
 induction l with
 | nil => rfl
 | cons x l ih => simp [cloneTs, ih]
theorem cmp_clone : ∀ x : S30, cmpT (cloneT x) x = 0 := by
 refine S30.ind ?_
 intro f l ih
 have hl : ∀ (l : List S30), (∀ x ∈ l, cmpT (cloneT x) x = 0) → cmpTs (cloneTs l) l = 0 := by
  intro l
  induction l with
  | nil => intro _; simp [cloneTs, cmpTs]
  | cons x l ihl =>
   intro h
   simp only [cloneTs, cmpTs, h x (by simp), if_true]
   exact ihl (fun x hx => h x (by simp [hx]))
 simp only [cloneT, cmpT]
 by_cases hf : f < 0
 ·simp [hf, cmpI_self]
 ·simp only [hf, or_self, and_self, if_false]
  rw [hl l ih, cmpI_self, cloneTs_eq, List.length_map, cmpI_self]
  rfl
theorem Clone_spec : ∀ t : S30, ok t → Ev (fun k => term_Clone.f k t.f0 t.f1) ((cloneT t).f0, (cloneT t).f1) := by
 refine S30.ind ?_
 intro f l ih hok
 obtain ⟨_, _, hl, hks⟩ := hok
 have hloop : ∀ (q : List S30), q.length ≤ 20 → (∀ x ∈ q, x ∈ l) → ∀ (m i : Nat), q.length - i = m → i ≤ q.length → Ev (fun k => term_Clone.l0 k q (q.length : Int) (i : Int) f ((q.take i).map cloneT)) (f, q.map cloneT) := by
  intro q hq20 hql m
  induction m with
  | zero =>
   intro i hi hle
   refine Ev.step (f := fun _ => some (f, q.map cloneT)) (fun k => ?_) (Ev.now _)
   rw [term_Clone.l0, if_neg (by omega), List.take_of_length_le (by omega)]
  | succ m ihm =>
   intro i hi hle
   have hlt : i < q.length := by omega
   have hm := hql _ (List.getElem_mem hlt)
   have he := ih q[i] hm (oks_mem hks _ hm)
   refine Ev.step (f := fun k => (term_Clone.f k q[i].f0 q[i].f1).bind fun t => if ((q.take i).map cloneT).length < 4398046511104 then term_Clone.l0 k q (q.length : Int) ((i + 1 : Nat) : Int) f ((q.take i).map cloneT ++ [(⟨t.1, t.2⟩ : S30)]) else none) (fun k => ?_) (Ev.bind he ?_)
   ·rw [term_Clone.l0, if_pos (by omega), if_pos (by omega), if_pos (by omega), rd30_at q i hlt, show wrap64 ((i : Int) + 1) = ((i + 1 : Nat) : Int) from by rw [w64 _ (by omega)]; omega]
   ·simp only [List.length_map, List.length_take]
    simp only [if_pos (show min i q.length < 4398046511104 by omega)]
    have := ihm (i + 1) (by omega) (by omega)
    rw [List.take_succ_eq_append_getElem hlt, List.map_append] at this
    simp only [S30.eta]
    exact this
 by_cases hf : f < 0
 ·refine Ev.step (f := fun k => term_Clone.l0 k [] (([] : List S30).length : Int) 0 f []) (fun k => ?_) ?_
  ·rw [term_Clone.f]; simp [term_parts.f, hf]
  ·have := hloop [] (by simp) (by simp) 0 0 rfl (by simp)
   simpa [cloneT, hf] using this
 ·refine Ev.step (f := fun k => term_Clone.l0 k l (l.length : Int) 0 f []) (fun k => ?_) ?_
  ·rw [term_Clone.f]; simp [term_parts.f, hf]
  ·have := hloop l hl (fun x hx => hx) l.length 0 rfl (by omega)
   simpa [cloneT, hf, cloneTs_eq] using this
theorem Same_of (x y : S30) : term_Same.f x.f0 x.f1 y.f0 y.f1 = some (cmpT x y == 0) := by
 simp only [term_Same.f, term_Compare.f, S30.eta, Option.bind_some]
end
section
theorem Size_is {t : S30} (h : (nodes t).length ≤ 1099511627776) : term_Size.f t.f0 t.f1 = some ((nodes t).length : Int) := by
 unfold term_Size.f
 rw [S30.eta, flatP_len, if_pos h]
end
section
open Go.RowKit Go.Maps Go.Proofs.YtpfddihcikiofaaW.PrintWords Go.Proofs.YtpfddihcikiofaaW.PrintLast Go.Proofs.YtpfddihcikiofaaW.PrintMore
theorem law3 : Keyed Try.prog 3 := int_keyed Try.underlying3
theorem zero3 (w : World) : (zeroValue 3).run Try.prog w = .ok (.int .i64 0) w := by kernel_rfl
abbrev i64D (c : Int) : DataW Unit := .lit (.int .i64 c)
def ReadsM (D : DataW Unit) (g : Int → Int) : Prop := IsMap D ∧ ∀ x, (Lit.int .i64 x).wf = true → D.atKey (.int .i64 x) (i64D 0) = i64D (g x)
def addV (g : Int → Int) (s : Int) (l : List S30) : Int → Int := fun x => g x + (if x < 0 then s * (countN x l : Int) else 0)
theorem addV_nil (g : Int → Int) (s : Int) : addV g s [] = g := by
 funext x
 simp [addV, countN]
theorem countN_append (x : Int) (l m : List S30) : countN x (l ++ m) = countN x l + countN x m := by simp [countN]
theorem countN_le (x : Int) (l : List S30) : countN x l ≤ l.length := by unfold countN; exact List.length_filter_le _ _
theorem addV_append (g : Int → Int) (s : Int) (l m : List S30) : addV g s (l ++ m) = addV (addV g s l) s m := by
 funext x
 simp only [addV, countN_append]
 split
 ·rw [Int.natCast_add, Int.mul_add]; omega
 ·omega
theorem addV_bound {g : Int → Int} {s M : Int} (hs : s = 1 ∨ s = -1) (h : ∀ x, -M ≤ g x ∧ g x ≤ M) (l : List S30) (x : Int) : -(M + l.length) ≤ addV g s l x ∧ addV g s l x ≤ M + l.length := by
 have h1 := countN_le x l
 have h2 := h x
 unfold addV
 split
 ·rcases hs with rfl | rfl
  ·rw [Int.one_mul]; omega
  ·rw [Int.neg_mul, Int.one_mul]; omega
 ·omega
def SmallN (t : S30) : Prop := ∀ x ∈ nodes t, -1000000 ≤ x.f0 ∧ x.f0 ≤ 1000000
theorem nodess_take (l : List S30) (k : Nat) (h : k < l.length) : nodess (l.take (k + 1)) = nodess (l.take k) ++ nodes l[k] := by
 have key : ∀ a b : List S30, nodess (a ++ b) = nodess a ++ nodess b := by
  intro a
  induction a with
  | nil => intro b; rfl
  | cons x a ih => intro b; rw [List.cons_append, nodess, nodess, ih, List.append_assoc]
 rw [List.take_succ_eq_append_getElem h, key]
 simp [nodess]
theorem nodess_mem {l : List S30} {x y : S30} (hx : x ∈ l) (hy : y ∈ nodes x) : y ∈ nodess l := by
 induction l with
 | nil => cases hx
 | cons z l ih =>
  rw [nodess, List.mem_append]
  rcases List.mem_cons.1 hx with rfl | hx
  ·exact .inl hy
  ·exact .inr (ih hx)
theorem nodess_take_le (l : List S30) (k : Nat) : (nodess (l.take k)).length ≤ (nodess l).length := by
 have key : ∀ a b : List S30, nodess (a ++ b) = nodess a ++ nodess b := by
  intro a
  induction a with
  | nil => intro b; rfl
  | cons x a ih => intro b; rw [List.cons_append, nodess, nodess, ih, List.append_assoc]
 have h : nodess l = nodess (l.take k) ++ nodess (l.drop k) := by rw [← key, List.take_append_drop]
 rw [h, List.length_append]
 omega
def CountsOk (t : S30) : Prop := ∀ (w0 w : World) (A : Option Addr) (c B n : Nat) (D : DataW Unit) (g : Int → Int) (s M : Int), k30.C w0 A t.f1.length t.f1 → t.f1.length ≤ c → Below w0.heap.size w0 w → w0.heap.size ≤ B →
 w.ownsMap Try.prog 3 (plainElem Try.prog 3) B n D → ReadsM D g → (∀ x, -M ≤ g x ∧ g x ≤ M) → M + (nodes t).length ≤ 1000000000 → n + (nodes t).length ≤ 1000000000 → (s = 1 ∨ s = -1) → SmallN t →
 Calls Try.prog 79 #[.agg #[.int .i64 t.f0, .slice A t.f1.length c], .map (some B), .int .i64 s] w fun e w' => e = .returned (.tuple #[]) ∧
  ∃ D', w'.ownsMap Try.prog 3 (plainElem Try.prog 3) B (n + (nodes t).length) D' ∧ ReadsM D' (addV g s (nodes t)) ∧ Below w0.heap.size w0 w'
theorem rdC_at (l : List S30) (k : Nat) (h : k < l.length) : rd_T30 l (k : Int) = l[k] := by
 unfold rd_T30
 simp [List.getD, List.getElem?_eq_getElem h]
theorem put_reads {D : DataW Unit} {g : Int → Int} {t : S30} {s c : Int} (h : ReadsM D g) (hneg : t.f0 < 0) (hn : nodes t = [t]) (hc : c = g t.f0 + s) (hw : (Lit.int .i64 t.f0).wf = true) : ReadsM (D.put (.int .i64 t.f0) (i64D c)) (addV g s (nodes t)) := by
 refine ⟨h.1.put _ _, fun x hx => ?_⟩
 by_cases hxt : x = t.f0
 ·subst hxt
  rw [atKey_put_same h.1 (by simp [WideAt.IsKeyLit]), hn, hc]
  simp [addV, hneg, countN]
 ·rw [atKey_put_other (by intro e; injection e with _ e; exact hxt e), h.2 x hx, hn]
  have : countN x [t] = 0 := by simp [countN]; exact fun e => hxt e.symm
  simp [addV, this]
set_option maxHeartbeats 4000000 in
set_option maxRecDepth 100000 in
theorem counts_any : ∀ t : S30, CountsOk t := by
 refine S30.ind ?_
 intro f l ih w0 w A c B n D g s M hC hc hb0 hB hown hR hg hM hn hs hsm
 have hll : l.length ≤ 9223372036854775807 := hC.2.1
 have hCz := Az_.mk hC
 have hIz := Az_.mk ih
 have hSz := Az_.mk hsm
 have hf : -1000000 ≤ f ∧ f ≤ 1000000 := hsm ⟨f, l⟩ (by simp [nodes])
 have hwf : (Lit.int .i64 f).wf = true := by simp [Lit.wf, IntKind.min, IntKind.max, IntKind.signed, IntKind.bits]; omega
 clear hC ih hsm
 by_cases hneg : f < 0
 ·have hnd : nodes ⟨f, l⟩ = [⟨f, l⟩] := by simp [nodes, hneg]
  have hlt : decide (f < 0) = true := decide_eq_true hneg
  have hgf := hg f
  have hkey : keyOf Try.prog 3 (.int .i64 f) = some (.int .i64 f) := keyOf_int_mk Try.underlying3 hwf
  have hownb := hown.alloc (.cells #[.int .i64 f, .slice A l.length c] 30)
  have hR' := Az_.mk hR
  have hg' := Az_.mk hg
  have hn1 : n + 1 ≤ 1000000000 := by rw [hnd] at hn; exact hn
  have hM1 : M + 1 ≤ 1000000000 := by rw [hnd] at hM; exact hM
  clear hR hg hn hM
  go_enter Try.func79, Try.ntmps79
  go_wp2_with (first
   | (at_lookup; refine wpList_lookup_own_int _ rfl _ _ 106 rfl 3 3 .i64 law3 Try.underlying106 Try.underlying3 (zero3 _) B n _ rfl hownb _ _ rfl hkey ?_; intro c1 hat hwc)
   | (at_mapUpdate; refine wpList_mapUpdate_own _ rfl _ _ _ 106 rfl 3 3 law3 Try.underlying106 _ B n _ rfl hownb (by unfold maxLen; omega) _ _ _ rfl rfl hkey _ [] (plainElem_int Try.underlying3 (wrap64_wf _)) ?_; intro w1 hown1 hgrow1)
   | go_in)
  have hc1 : c1 = g f := by
   have h1 := hR'.out.2 f hwf
   rw [hat] at h1
   simpa [i64D] using h1
  have hgf' := hg'.out f
  have hwr : wrap64 (c1 + s) = g f + s := by
   rw [hc1]
   unfold wrap64
   rcases hs with rfl | rfl <;> omega
  have hbb := (bA_ hb0 (.cells #[.int .i64 f, .slice A l.length c] 30)).grown hgrow1 (Nat.le_trans hb0.size (by simp)) (fun j hj => by cases hj; exact hB)
  have hres := put_reads hR'.out (t := ⟨f, l⟩) hneg (by simp [nodes, hneg]) hwr hwf
  rw [show nodes ⟨f, l⟩ = [⟨f, l⟩] by simp [nodes, hneg]] at hres
  refine bodyPost_ret (results_none (by rfl) _ _ _) (by rfl) ?_
  exact ⟨rfl, _, hown1, hres, hbb⟩
 ·have hge : decide (f < 0) = false := decide_eq_false hneg
  have hnd : nodes ⟨f, l⟩ = ⟨f, l⟩ :: nodess l := by simp [nodes, hneg]
  have hadd : addV g s (nodes ⟨f, l⟩) = addV g s (nodess l) := by
   funext x
   rw [hnd]
   unfold addV
   split
   ·rename_i hx
    have : countN x (⟨f, l⟩ :: nodess l) = countN x (nodess l) := by
     unfold countN
     rw [List.filter_cons_of_neg]
     simp
     omega
    rw [this]
   ·rfl
  have hln : (nodes ⟨f, l⟩).length = 1 + (nodess l).length := by rw [hnd, List.length_cons]; omega
  rw [hln] at hM hn ⊢
  rw [hadd]
  have hSl : ∀ x ∈ l, SmallN x := fun x hx y hy => hSz.out y (by rw [hnd]; exact List.mem_cons_of_mem _ (nodess_mem hx hy))
  have hSl := Az_.mk hSl
  have hR' := Az_.mk hR
  have hg' := Az_.mk hg
  have hownb := Az_.mk (hown.alloc (.cells #[.int .i64 f, .slice A l.length c] 30))
  have hbb := Az_.mk (bA_ hb0 (.cells #[.int .i64 f, .slice A l.length c] 30))
  clear hR hg hnd hadd hln hSz hb0 hown hf hwf
  go_enter Try.func79, Try.ntmps79
  go_wp2
  go_loopw [20] (fun i wr => ∃ k : Nat, k ≤ l.length ∧ i = .int .i64 k ∧ Az_ (∃ D', wr.ownsMap Try.prog 3 (plainElem Try.prog 3) B (n + (nodess (l.take k)).length) D' ∧ ReadsM D' (addV g s (nodess (l.take k))) ∧ Below w0.heap.size w0 wr)) (fun i wr => l.length - (intOf i).toNat)
  case atStart => exact ⟨0, Nat.zero_le _, rfl, ⟨D, hownb.out, by rw [List.take_zero, nodess, addV_nil]; exact hR'.out, hbb.out⟩⟩
  case round =>
   obtain ⟨k, hk, rfl, ⟨D1, hown1, hR1, hb1⟩⟩ := hrel
   by_cases hlt : k < l.length
   ·obtain ⟨ad, A1, c1, rfl, hx0, hx1, hl1, hC1⟩ := at_T30 hCz.out (k : Int) (by omega) (by omega)
    rw [rdC_at l k hlt] at hx0 hx1 hl1 hC1
    rw [Int.toNat_natCast] at hx0 hx1
    replace hx0 := (hb1.cell (cell_lt' hx0)).trans hx0
    replace hx1 := (hb1.cell (cell_lt' hx1)).trans hx1
    have htk := nodess_take l k hlt
    have htl := nodess_take_le l (k + 1)
    rw [htk, List.length_append] at htl
    have hih := hIz.out l[k] (List.getElem_mem hlt)
    have hsx := hSl.out l[k] (List.getElem_mem hlt)
    generalize hxk : l[k] = x at hx0 hx1 hl1 hC1 htk htl hih hsx
    obtain ⟨P, hP⟩ : ∃ P, P = nodess (l.take k) := ⟨_, rfl⟩
    rw [← hP] at htk htl hown1 hR1
    have hgb := addV_bound hs hg'.out P
    have hin : Az_ (Calls Try.prog 79 #[.agg #[.int .i64 x.f0, .slice A1 x.f1.length c1], .map (some B), .int .i64 s] (wr.alloc (.cells #[.int .i64 x.f0, .slice A1 x.f1.length c1] 30)) fun e w' => e = .returned (.tuple #[]) ∧
      ∃ D', w'.ownsMap Try.prog 3 (plainElem Try.prog 3) B (n + P.length + (nodes x).length) D' ∧ ReadsM D' (addV (addV g s P) s (nodes x)) ∧ Below w0.heap.size w0 w') := ⟨hih w0 _ A1 c1 B (n + P.length) D1 (addV g s P) s (M + P.length) hC1 hl1 (bA_ hb1 _) hB (hown1.alloc _) hR1 hgb (by omega) (by omega) hs hsx⟩
    have htkz := Az_.mk htk
    have hsz := Az_.mk hs
    clear hxk hgb hown1 hR1 hb1 hC1 htl htk hih hsx hP hs
    go_wp2_with (go_at_call 79; refine hin.out.mono ?_; rintro e w3 ⟨rfl, D2, h1, h2, h3⟩; have H1 := Az_.mk h1; have H2 := Az_.mk h2; have H3 := Az_.mk h3; clear h1 h2 h3)
    go_roundw
    case rel => exact ⟨k + 1, by omega, by go_num, ⟨D2, by rw [htkz.out, List.length_append, ← Nat.add_assoc]; exact H1.out, by rw [htkz.out, addV_append]; exact H2.out, H3.out⟩⟩
    case measure => simp [intOf]; omega
   ·have hke : k = l.length := by omega
    subst hke
    rw [List.take_length] at hown1 hR1
    have hown1 := Az_.mk hown1
    have hR1 := Az_.mk hR1
    have hb1 := Az_.mk hb1
    go_wp2
    go_end0
    exact ⟨rfl, D1, hown1.out.mono (by omega), hR1.out, hb1.out⟩
def covT (a b : S30) : Bool := (nodes b).all fun x => decide (0 ≤ x.f0) || decide (countN x.f0 (nodes b) ≤ countN x.f0 (nodes a))
def netV (a b : S30) : Int → Int := addV (addV (fun _ => 0) 1 (nodes a)) (-1) (nodes b)
theorem netV_eq (a b : S30) (x : Int) : netV a b x = if x < 0 then (countN x (nodes a) : Int) - (countN x (nodes b) : Int) else 0 := by
 unfold netV addV
 simp only []
 split
 ·rw [Int.one_mul, Int.neg_mul, Int.one_mul]; omega
 ·omega
theorem covT_iff (a b : S30) : covT a b = true ↔ ∀ x, 0 ≤ netV a b x := by
 unfold covT
 rw [List.all_eq_true]
 constructor
 ·intro h x
  rw [netV_eq]
  split
  ·rename_i hx
   by_cases hz : countN x (nodes b) = 0
   ·omega
   ·obtain ⟨y, hy⟩ : ∃ y, y ∈ (nodes b).filter fun z => z.f0 == x := List.exists_mem_of_length_pos (Nat.pos_of_ne_zero hz)
    rw [List.mem_filter, beq_iff_eq] at hy
    have := h y hy.1
    rw [hy.2, Bool.or_eq_true, decide_eq_true_eq, decide_eq_true_eq] at this
    omega
  ·exact Int.le_refl _
 ·intro h x hx
  have := h x.f0
  rw [netV_eq] at this
  rw [Bool.or_eq_true, decide_eq_true_eq, decide_eq_true_eq]
  split at this <;> omega
set_option maxHeartbeats 4000000 in
set_option maxRecDepth 100000 in
theorem Covers_calls (a b : S30) (A : Option Addr) (c : Nat) (A' : Option Addr) (c' : Nat) (w : World) (hA : k30.C w A a.f1.length a.f1) (hc : a.f1.length ≤ c) (hB : k30.C w A' b.f1.length b.f1) (hc' : b.f1.length ≤ c')
  (hsa : SmallN a) (hsb : SmallN b) (hna : (nodes a).length ≤ 1000000) (hnb : (nodes b).length ≤ 1000000) :
  Calls Try.prog 45 #[.agg #[.int .i64 a.f0, .slice A a.f1.length c], .agg #[.int .i64 b.f0, .slice A' b.f1.length c']] w fun e w' => e = .returned (.bool (covT a b)) ∧ Below w.heap.size w w' := by
 have hmm := @run_makeMap Try.prog
 obtain ⟨W2, hW2⟩ : ∃ W2, W2 = (w.alloc (.cells #[.int .i64 a.f0, .slice A a.f1.length c] 30)).alloc (.cells #[.int .i64 b.f0, .slice A' b.f1.length c'] 30) := ⟨_, rfl⟩
 have hb2 : Below w.heap.size w W2 := by rw [hW2]; exact bA_ (bA_ (Below.refl _ _) _) _
 have hs2 : W2.heap.size = w.heap.size + 1 + 1 := by rw [hW2, World.size_alloc, World.size_alloc]
 have hbx : W2.heap[w.heap.size + 1]? = some (.cells #[.int .i64 b.f0, .slice A' b.f1.length c'] 30 (0, 0)) := by
  rw [hW2]
  have := heap_alloc_new (w.alloc (.cells #[.int .i64 a.f0, .slice A a.f1.length c] 30)) (.cells #[.int .i64 b.f0, .slice A' b.f1.length c'] 30)
  rw [World.size_alloc] at this
  exact this
 have hmade := World.ownsMap_made W2 Try.prog 3 (plainElem (H := Unit) Try.prog 3)
 rw [hs2] at hmade
 have h1 : Az_ (Calls Try.prog 79 #[.agg #[.int .i64 a.f0, .slice A a.f1.length c], .map (some (w.heap.size + 1 + 1)), .int .i64 1] (W2.alloc (.map #[] 0)) fun e w' => e = .returned (.tuple #[]) ∧
   ∃ D', w'.ownsMap Try.prog 3 (plainElem (H := Unit) Try.prog 3) (w.heap.size + 1 + 1) (0 + (nodes a).length) D' ∧ ReadsM D' (addV (fun _ => 0) 1 (nodes a)) ∧ Below W2.heap.size W2 w') :=
  ⟨counts_any a W2 _ A c _ 0 _ (fun _ => 0) 1 0 (Kd.C_below hA hb2) hc (bA_ (Below.refl _ _) _) (Nat.le_of_eq hs2) hmade ⟨isMap_empty, fun x _ => rfl⟩ (fun x => ⟨by omega, by omega⟩) (by omega) (by omega) (.inl rfl) hsa⟩
 have h2 : Az_ (∀ w4 D1, w4.ownsMap Try.prog 3 (plainElem (H := Unit) Try.prog 3) (w.heap.size + 1 + 1) (0 + (nodes a).length) D1 → ReadsM D1 (addV (fun _ => 0) 1 (nodes a)) → Below W2.heap.size W2 w4 → Calls Try.prog 79 #[.agg #[.int .i64 b.f0, .slice A' b.f1.length c'], .map (some (w.heap.size + 1 + 1)), .int .i64 (-1)] w4 fun e w' => e = .returned (.tuple #[]) ∧
   ∃ D', w'.ownsMap Try.prog 3 (plainElem (H := Unit) Try.prog 3) (w.heap.size + 1 + 1) (0 + (nodes a).length + (nodes b).length) D' ∧ ReadsM D' (netV a b) ∧ Below W2.heap.size W2 w') :=
  ⟨fun w4 D1 g1 g2 g3 => counts_any b W2 w4 A' c' _ _ _ _ (-1) (nodes a).length (Kd.C_below hB hb2) hc' g3 (Nat.le_of_eq hs2) g1 g2 (fun x => by have := addV_bound (g := fun _ => 0) (M := 0) (.inl rfl) (fun x => ⟨by omega, by omega⟩) (nodes a) x; omega) (by omega) (by omega) (.inr rfl) hsb⟩
 have hbig : Az_ (∀ x, ¬ (Lit.int .i64 x).wf = true → netV a b x = 0) := ⟨fun x hx => by
  have hz : ∀ t : S30, SmallN t → countN x (nodes t) = 0 := fun t ht => by
   unfold countN
   rw [List.length_eq_zero_iff, List.filter_eq_nil_iff]
   intro y hy e
   rw [beq_iff_eq] at e
   have := ht y hy
   apply hx
   simp [Lit.wf, IntKind.min, IntKind.max, IntKind.signed, IntKind.bits]
   omega
  rw [netV_eq, hz a hsa, hz b hsb]
  split <;> rfl⟩
 have hb2z := Az_.mk hb2
 have hbxz := Az_.mk hbx
 have hW2z := Az_.mk hW2
 have hs2z := Az_.mk hs2
 clear hA hB hsa hsb hna hnb hmade hb2 hbx hs2 hW2
 go_enter Try.func45, Try.ntmps45
 go_wp2_with (first
  | (go_at_call 79; rw [← hW2z.out]; refine h1.out.mono ?_; rintro e w4 ⟨rfl, D1, g1, g2, g3⟩; have G1 := Az_.mk (And.intro g1 (And.intro g2 g3)); have k0 : w4.cell? ⟨w.heap.size + 1, 0, none⟩ = some (.int .i64 b.f0) := (yaa_ (kB_ hbxz.out g3) 0).trans rfl; have k1 : w4.cell? ⟨w.heap.size + 1, 1, none⟩ = some (.slice A' b.f1.length c') := (yaa_ (kB_ hbxz.out g3) 1).trans rfl; clear g1 g2 g3)
  | (go_at_call 79; refine (h2.out _ _ G1.out.1 G1.out.2.1 G1.out.2.2).mono ?_; rintro e w5 ⟨rfl, D2, g4, g5, g6⟩; have G2 := Az_.mk (And.intro g5 g6))
  | (at_range; refine wpList_range_own _ rfl _ 106 rfl 3 3 law3 Try.underlying106 _ (w.heap.size + 1 + 1) _ _ rfl g4 ?_; intro w6 hrg0 hg0 hs0)
  | go_in)
 have hB6 : Below w.heap.size w w6 := (hb2z.out.trans (G2.out.2.mono hb2z.out.size)).grown hg0 (Nat.le_trans hb2z.out.size G2.out.2.size) (fun j hj => by cases hj)
 have hlt5 : w.heap.size ≤ w5.heap.size := Nat.le_trans hb2z.out.size G2.out.2.size
 have hrel0 : ∀ x, (Lit.int .i64 x).wf = true → Maps.has D2 (.int .i64 x) = false → 0 ≤ netV a b x := fun x hx hh => by
  have h3 := G2.out.1.2 x hx
  rw [atKey_of_not_has hh] at h3
  have : netV a b x = 0 := by simpa [i64D] using h3.symm
  omega
 have hrel0z := Az_.mk hrel0
 have hB6z := Az_.mk hB6
 have hat2 := Az_.mk G2.out.1
 clear g4 G1 G2 h1 h2 hmm hrel0 hB6 k0 k1 hg0 hs0
 go_frame
 go_loopw [7] (fun _ wr => ∃ (left : Lit → Bool) (cnt : Nat), wr.ranges Try.prog 3 (plainElem (H := Unit) Try.prog 3) (w.heap.size + 1 + 1) w5.heap.size (0 + (nodes a).length + (nodes b).length) D2 left cnt ∧ Az_ (∀ x, (Lit.int .i64 x).wf = true → left (.int .i64 x) = false → 0 ≤ netV a b x) ∧ Az_ (Below w.heap.size w wr))
  (fun _ wr => wr.rangeLeft (w.heap.size + 1 + 1) w5.heap.size)
 case atStart => exact ⟨_, _, hrg0, hrel0z, hB6z⟩
 case round =>
  obtain ⟨left, cnt, hrg, hl, hbw⟩ := hrel
  go_wp2_with (first
   | (at_next; refine wpList_next_ranges_ii _ rfl _ rfl 3 3 .i64 .i64 law3 Try.underlying3 Try.underlying3 (w.heap.size + 1 + 1) w5.heap.size _ _ _ _ rfl hrg ?_ ?_)
   | go_in)
  ·intro _ hl0
   have hcv : covT a b = true := by
    rw [covT_iff]
    intro x
    by_cases hx : (Lit.int .i64 x).wf = true
    ·exact hl.out x hx (hl0 _)
    ·rw [hbig.out x hx]
     exact Int.le_refl _
   go_wp2
   go_ret
   rw [hcv]
   exact ⟨rfl, hbw.out⟩
  ·intro x c1 w7 cnt1 hwx hwc hlx hat hrg1 hlt hg1 hs1 hen
   have hnet : netV a b x = c1 := by
    have h3 := hat2.out.2 x hwx
    rw [hat] at h3
    simpa [i64D] using h3.symm
   have hbw1 := Az_.mk (hbw.out.grown hg1 hbw.out.size (fun j hj => by cases hj; exact hlt5))
   by_cases hneg : c1 < 0
   ·have hd : decide (c1 < 0) = true := decide_eq_true hneg
    have hcv : covT a b = false := by
     rw [← Bool.not_eq_true, covT_iff]
     intro h
     have := h x
     omega
    clear hnet
    go_wp2
    go_ret
    rw [hcv]
    exact ⟨rfl, hbw1.out⟩
   ·have hd : decide (c1 < 0) = false := decide_eq_false hneg
    have hl2 : Az_ (∀ y, (Lit.int .i64 y).wf = true → (fun z => left z && !z.sameKey (.int .i64 x)) (.int .i64 y) = false → 0 ≤ netV a b y) := ⟨fun y hy hly => by
     by_cases hyx : y = x
     ·subst hyx; omega
     ·rw [show (fun z => left z && !z.sameKey (.int .i64 x)) (.int .i64 y) = (left (.int .i64 y) && !(Lit.int .i64 y).sameKey (.int .i64 x)) from rfl, Maps.sameKey_ne (by intro e; injection e with _ e; exact hyx e)] at hly
      exact hl.out y hy (by simpa using hly)⟩
    have hmeas : w7.rangeLeft (w.heap.size + 1 + 1) w5.heap.size < wr.rangeLeft (w.heap.size + 1 + 1) w5.heap.size := by rw [hrg1.left_eq, hrg.left_eq]; exact hlt
    have hmz := Az_.mk hmeas
    clear hnet hmeas
    go_wp2
    go_roundw
    case rel => exact ⟨(fun z => left z && !z.sameKey (.int .i64 x)), cnt1, by rw [Nat.zero_add]; exact hrg1, hl2, hbw1⟩
    case measure => exact hmz.out
def fitB (t : S30) : Bool := decide ((nodes t).length ≤ 1000000) && (nodes t).all fun x => decide (-1000000 ≤ x.f0) && decide (x.f0 ≤ 1000000)
theorem fitB_iff (t : S30) : fitB t = true ↔ (nodes t).length ≤ 1000000 ∧ SmallN t := by
 unfold fitB SmallN
 rw [Bool.and_eq_true, decide_eq_true_eq, List.all_eq_true]
 simp only [Bool.and_eq_true, decide_eq_true_eq]
def kbo_Covers.f (a0_0 : Int) (l0_1 : List S30) (a1_0 : Int) (l1_1 : List S30) : Option Bool := if (fitB ⟨a0_0, l0_1⟩ && fitB ⟨a1_0, l1_1⟩) = true then some (covT ⟨a0_0, l0_1⟩ ⟨a1_0, l1_1⟩) else none
theorem kbo_Covers.calls (a0_0 : Int) (A0_1 : Option Addr) (c0_1 : Nat) (l0_1 : List (S30)) (a1_0 : Int) (A1_1 : Option Addr) (c1_1 : Nat) (l1_1 : List (S30)) (r : Bool) (w : World) (hr0_1 : Kd.C k30 w A0_1 l0_1.length l0_1) (hc0_1 : l0_1.length ≤ c0_1) (hr1_1 : Kd.C k30 w A1_1 l1_1.length l1_1) (hc1_1 : l1_1.length ≤ c1_1) (h : kbo_Covers.f a0_0 l0_1 a1_0 l1_1 = some r) :
  Calls Try.prog 45 #[.agg #[.int .i64 a0_0, .slice A0_1 l0_1.length c0_1], .agg #[.int .i64 a1_0, .slice A1_1 l1_1.length c1_1]] w fun e w' => e = .returned (.bool r) ∧ Below w.heap.size w w' := by
 unfold kbo_Covers.f at h
 split at h
 ·rename_i hf
  rw [Bool.and_eq_true, fitB_iff, fitB_iff] at hf
  obtain rfl := Option.some.inj h
  exact Covers_calls ⟨a0_0, l0_1⟩ ⟨a1_0, l1_1⟩ A0_1 c0_1 A1_1 c1_1 w hr0_1 hc0_1 hr1_1 hc1_1 hf.1.2 hf.2.2 hf.1.1 hf.2.1
 ·cases h
end
section
attribute [local go_sem] yaq_ yao_ max_two min_two yal_ yak_ yap_ yan_
mutual
def soritesref06_Same.l0 : Nat → Int → Int → List (S24) → Int → List (S24) → Option (Bool)
 | 0, _, _, _, _, _ => none
 | k + 1, x5, x178000, x178001, x179000, x179001 => if x5 < (x178001.length : Int) then (if 0 ≤ x5 then (if x5 < (x179001.length : Int) then ((soritesref06_Same.f k ((rd_T24 x178001 x5).f0) ((rd_T24 x178001 x5).f1) ((rd_T24 x179001 x5).f0) ((rd_T24 x179001 x5).f1)).bind fun t181 => (if t181 = true then (soritesref06_Same.l0 k (wrap64 (x5 + 1)) x178000 x178001 x179000 x179001) else (some false))) else (none)) else (none)) else (some true)
def soritesref06_Same.f : Nat → Int → List (S24) → Int → List (S24) → Option (Bool)
 | 0, _, _, _, _ => none
 | k + 1, a0_0, l0_1, a1_0, l1_1 => if a0_0 = a1_0 then (if a0_0 < 0 then (some true) else (if (l0_1.length : Int) = (l1_1.length : Int) then (soritesref06_Same.l0 k 0 a0_0 l0_1 a1_0 l1_1) else (some false))) else (some false)
end
end
section
attribute [local go_sem] yaq_ yao_ max_two min_two yal_ yak_ yap_ yan_
mutual
def soritesref06_Flat.l0 : Nat → List (S24) → Int → Int → List (S24) → Option ((List (S24)))
 | 0, _, _, _, _ => none
 | k + 1, x3, x4, x159000, x159001 => if x159000 ≥ 0 then (if x4 < (x159001.length : Int) then (if 0 ≤ x4 then ((soritesref06_Flat.f k ((rd_T24 x159001 x4).f0) ((rd_T24 x159001 x4).f1)).bind fun t163 => (if x3.length + t163.length < 4398046511104 then (soritesref06_Flat.l0 k (x3 ++ t163) (wrap64 (x4 + 1)) x159000 x159001) else (none))) else (none)) else (some x3)) else (some x3)
def soritesref06_Flat.f : Nat → Int → List (S24) → Option ((List (S24)))
 | 0, _, _ => none
 | k + 1, a0_0, l0_1 => soritesref06_Flat.l0 k (([(⟨a0_0, l0_1⟩ : S24)] : List (S24))) 0 a0_0 l0_1
end
end
section
attribute [local go_sem] yaq_ yao_ max_two min_two yal_ yak_ yap_ yan_
mutual
def soritesref06_Vars.l0 : Nat → List (S24) → List Int → Int → Option (List Int)
 | 0, _, _, _ => none
 | k + 1, x3, x4, x5 => if x5 < (x3.length : Int) then (if 0 ≤ x5 then (if ((rd_T24 x3 x5).f0) ≥ 0 then (soritesref06_Vars.l0 k x3 x4 (wrap64 (x5 + 1))) else (soritesref06_Vars.l1 k x3 x4 x5 (wrap64 ((-1) - ((rd_T24 x3 x5).f0))) false 0)) else (none)) else (some x4)
def soritesref06_Vars.l1 : Nat → List (S24) → List Int → Int → Int → Bool → Int → Option (List Int)
 | 0, _, _, _, _, _, _ => none
 | k + 1, x3, x4, x5, x6, x7, x8 => if x8 < (x4.length : Int) then (if x7 = true then (soritesref06_Vars.l1 k x3 x4 x5 x6 true (wrap64 (x8 + 1))) else (if 0 ≤ x8 then (soritesref06_Vars.l1 k x3 x4 x5 x6 ((rd x4 x8) == x6) (wrap64 (x8 + 1))) else (none))) else (if x7 = true then (soritesref06_Vars.l0 k x3 x4 (wrap64 (x5 + 1))) else (if x4.length < 17592186044416 then (soritesref06_Vars.l0 k x3 (x4 ++ [x6]) (wrap64 (x5 + 1))) else (none)))
end
def soritesref06_Vars.f (k : Nat) (a0_0 : Int) (l0_1 : List (S24)) : Option (List Int) := (soritesref06_Flat.f k a0_0 l0_1).bind fun t298 => (soritesref06_Vars.l0 k t298 ([] : List Int) 0)
end
section
def fit (t : S30) : Prop := (nodes t).length ≤ 1000000 ∧ SmallN t
theorem nodes_pos (t : S30) : 1 ≤ (nodes t).length := by
 obtain ⟨f, l⟩ := t
 simp [nodes]
theorem nodess_len_le : ∀ l : List S30, l.length ≤ (nodess l).length
 | [] => by simp
 | x :: r => by
  have := nodes_pos x
  have := nodess_len_le r
  simp only [nodess, List.length_append, List.length_cons]
  omega
theorem nodess_one_le {l : List S30} {x : S30} (h : x ∈ l) : (nodes x).length ≤ (nodess l).length := by
 induction l with
 | nil => cases h
 | cons z l ih =>
  rw [nodess, List.length_append]
  rcases List.mem_cons.1 h with rfl | h
  ·omega
  ·have := ih h; omega
theorem fit_sub {f : Int} {l : List S30} (hf : ¬ f < 0) (h : fit ⟨f, l⟩) : l.length ≤ 1000000 ∧ ∀ x ∈ l, fit x := by
 have hn : nodes ⟨f, l⟩ = ⟨f, l⟩ :: nodess l := by simp [nodes, hf]
 have h1 := h.1
 rw [hn, List.length_cons] at h1
 refine ⟨by have := nodess_len_le l; omega, fun x hx => ⟨by have := nodess_one_le hx; omega, fun y hy => h.2 y (by rw [hn]; exact List.mem_cons_of_mem _ (nodess_mem hx hy))⟩⟩
theorem fit_num {t : S30} (h : fit t) : -1000000 ≤ t.f0 ∧ t.f0 ≤ 1000000 := h.2 t (by obtain ⟨f, l⟩ := t; simp [nodes])
theorem rd24_at (l : List S30) (k : Nat) (h : k < l.length) : rd_T24 l (k : Int) = l[k] := rdC_at l k h
theorem cmpI_ne {a b : Int} (h : a ≠ b) : cmpI a b ≠ 0 := by unfold cmpI; (repeat' split) <;> omega
theorem cmpTs_drop (l m : List S30) (k : Nat) (hl : k < l.length) (hm : k < m.length) : cmpTs (l.drop k) (m.drop k) = if cmpT l[k] m[k] = 0 then cmpTs (l.drop (k + 1)) (m.drop (k + 1)) else cmpT l[k] m[k] := by
 rw [List.drop_eq_getElem_cons hl, List.drop_eq_getElem_cons hm, cmpTs]
theorem wsucc (i n : Nat) (h : i < n) (hn : n ≤ 1000000000) : wrap64 ((i : Int) + 1) = ((i + 1 : Nat) : Int) := by rw [w64 _ (by omega)]; omega
theorem RSame_spec : ∀ a b : S30, fit a → Ev (fun k => soritesref06_Same.f k a.f0 a.f1 b.f0 b.f1) (cmpT a b == 0) := by
 refine S30.ind ?_
 intro f l ih b hfit
 obtain ⟨g, m⟩ := b
 by_cases hfg : f = g
 ·subst hfg
  by_cases hf : f < 0
  ·refine Ev.step (f := fun _ => some true) (fun k => ?_) ?_
   ·rw [soritesref06_Same.f, if_pos rfl, if_pos hf]
   ·have : cmpT ⟨f, l⟩ ⟨f, m⟩ = 0 := by simp [cmpT, hf, cmpI_self]
    rw [this]; exact Ev.now _
  ·obtain ⟨hll, hsub⟩ := fit_sub hf hfit
   by_cases hlm : l.length = m.length
   ·have hc : cmpT ⟨f, l⟩ ⟨f, m⟩ = cmpTs l m := by simp [cmpT, hf, cmpI_self, hlm, orI]
    rw [hc]
    refine Ev.step (f := fun k => soritesref06_Same.l0 k 0 f l f m) (fun k => ?_) ?_
    ·rw [soritesref06_Same.f, if_pos rfl, if_neg hf, if_pos (by simp [hlm])]
    ·have key : ∀ n i, l.length - i = n → i ≤ l.length → Ev (fun k => soritesref06_Same.l0 k (i : Int) f l f m) (cmpTs (l.drop i) (m.drop i) == 0) := by
      intro n
      induction n with
      | zero =>
       intro i hi hle
       refine Ev.step (f := fun _ => some true) (fun k => ?_) ?_
       ·rw [soritesref06_Same.l0, if_neg (by omega)]
       ·rw [List.drop_of_length_le (by omega), List.drop_of_length_le (by omega)]; exact Ev.now _
      | succ n ihn =>
       intro i hi hle
       have hlt : i < l.length := by omega
       have hltm : i < m.length := by omega
       have hmem := List.getElem_mem hlt
       refine Ev.step (f := fun k => (soritesref06_Same.f k l[i].f0 l[i].f1 m[i].f0 m[i].f1).bind fun t => if t = true then soritesref06_Same.l0 k ((i + 1 : Nat) : Int) f l f m else some false) (fun k => ?_) (Ev.bind (ih l[i] hmem m[i] (hsub _ hmem)) ?_)
       ·rw [soritesref06_Same.l0, if_pos (by omega), if_pos (by omega), if_pos (by omega), rd24_at l i hlt, rd24_at m i hltm, wsucc i l.length hlt (by omega)]
       ·rw [cmpTs_drop l m i hlt hltm]
        by_cases h0 : cmpT l[i] m[i] = 0
        ·simp only [h0, beq_self_eq_true, if_true]
         exact ihn (i + 1) (by omega) (by omega)
        ·rw [if_neg h0]
         have : (cmpT l[i] m[i] == 0) = false := by simpa using h0
         simp only [this, Bool.false_eq_true, if_false]
         exact Ev.now _
     have := key l.length 0 rfl (by omega)
     simpa using this
   ·refine Ev.step (f := fun _ => some false) (fun k => ?_) ?_
    ·rw [soritesref06_Same.f, if_pos rfl, if_neg hf, if_neg (by simpa using fun h => hlm (by omega))]
    ·have h1 : cmpI (l.length : Int) m.length ≠ 0 := cmpI_ne (by omega)
     have : (cmpT ⟨f, l⟩ ⟨f, m⟩ == 0) = false := by simp [cmpT, hf, cmpI_self, orI, h1]
     rw [this]; exact Ev.now _
 ·refine Ev.step (f := fun _ => some false) (fun k => ?_) ?_
  ·rw [soritesref06_Same.f, if_neg hfg]
  ·have h1 := cmpI_ne hfg
   have h2 := cmpI_ne (fun e => hfg e.symm)
   have : (cmpT ⟨f, l⟩ ⟨g, m⟩ == 0) = false := by
    simp only [cmpT, beq_eq_false_iff_ne]
    split
    ·split
     ·exact h2
     ·exact h1
    ·unfold orI; rw [if_neg h1]; exact h1
   rw [this]; exact Ev.now _
theorem RFlat_spec : ∀ t : S30, fit t → Ev (fun k => soritesref06_Flat.f k t.f0 t.f1) (nodes t) := by
 refine S30.ind ?_
 intro f l ih hfit
 refine Ev.step (f := fun k => soritesref06_Flat.l0 k [⟨f, l⟩] 0 f l) (fun k => by rw [soritesref06_Flat.f]) ?_
 by_cases hf : f < 0
 ·refine Ev.step (f := fun _ => some [⟨f, l⟩]) (fun k => by rw [soritesref06_Flat.l0, if_neg (by omega)]) ?_
  have : nodes ⟨f, l⟩ = [⟨f, l⟩] := by simp [nodes, hf]
  rw [this]; exact Ev.now _
 ·obtain ⟨hll, hsub⟩ := fit_sub hf hfit
  have hn : nodes ⟨f, l⟩ = ⟨f, l⟩ :: nodess l := by simp [nodes, hf]
  have hlen := hfit.1
  rw [hn, List.length_cons] at hlen
  have key : ∀ n i, l.length - i = n → i ≤ l.length → Ev (fun k => soritesref06_Flat.l0 k (⟨f, l⟩ :: nodess (l.take i)) (i : Int) f l) (nodes ⟨f, l⟩) := by
   intro n
   induction n with
   | zero =>
    intro i hi hle
    refine Ev.step (f := fun _ => some (⟨f, l⟩ :: nodess (l.take i))) (fun k => by rw [soritesref06_Flat.l0, if_pos (by omega), if_neg (by omega)]) ?_
    rw [List.take_of_length_le (by omega), hn]; exact Ev.now _
   | succ n ihn =>
    intro i hi hle
    have hlt : i < l.length := by omega
    have hmem := List.getElem_mem hlt
    have htk := nodess_take l i hlt
    have htl := nodess_take_le l (i + 1)
    rw [htk, List.length_append] at htl
    refine Ev.step (f := fun k => (soritesref06_Flat.f k l[i].f0 l[i].f1).bind fun t => if (⟨f, l⟩ :: nodess (l.take i)).length + t.length < 4398046511104 then soritesref06_Flat.l0 k ((⟨f, l⟩ :: nodess (l.take i)) ++ t) ((i + 1 : Nat) : Int) f l else none) (fun k => ?_) (Ev.bind (ih l[i] hmem (hsub _ hmem)) ?_)
    ·rw [soritesref06_Flat.l0, if_pos (by omega), if_pos (by omega), if_pos (by omega), rd24_at l i hlt, wsucc i l.length hlt (by omega)]
    ·simp only [List.length_cons]
     simp only [if_pos (show (nodess (l.take i)).length + 1 + (nodes l[i]).length < 4398046511104 by omega)]
     have := ihn (i + 1) (by omega) (by omega)
     rw [htk] at this
     simpa using this
  have := key l.length 0 rfl (by omega)
  simpa [nodess] using this
end
section
attribute [local go_sem] yaq_ yao_ max_two min_two yal_ yak_ yap_ yan_
def soritesref10_count.l0 : Nat → Int → List (S24) → Int → Int → Option (Int)
 | 0, _, _, _, _ => none
 | k + 1, x1, x5, x6, x7 => if x7 < (x5.length : Int) then (if 0 ≤ x7 then (if ((rd_T24 x5 x7).f0) = (wrap64 ((-1) - x1)) then (soritesref10_count.l0 k x1 x5 (wrap64 (x6 + 1)) (wrap64 (x7 + 1))) else (soritesref10_count.l0 k x1 x5 x6 (wrap64 (x7 + 1)))) else (none)) else (some x6)
def soritesref10_count.f (k : Nat) (a0_0 : Int) (l0_1 : List (S24)) (a1 : Int) : Option (Int) := (soritesref06_Flat.f k a0_0 l0_1).bind fun t308 => (soritesref10_count.l0 k a1 t308 0 0)
end
section
attribute [local go_sem] yaq_ yao_ max_two min_two yal_ yak_ yap_ yan_
def soritesref10_Covers.l0 : Nat → List Int → Int → Int → List (S24) → Int → List (S24) → Option (Bool)
 | 0, _, _, _, _, _, _ => none
 | k + 1, x5, x6, x313000, x313001, x314000, x314001 => if x6 < (x5.length : Int) then (if 0 ≤ x6 then ((soritesref10_count.f k x314000 x314001 (rd x5 x6)).bind fun t318 => ((soritesref10_count.f k x313000 x313001 (rd x5 x6)).bind fun t320 => (if t318 > t320 then (some false) else (soritesref10_Covers.l0 k x5 (wrap64 (x6 + 1)) x313000 x313001 x314000 x314001)))) else (none)) else (some true)
def soritesref10_Covers.f (k : Nat) (a0_0 : Int) (l0_1 : List (S24)) (a1_0 : Int) (l1_1 : List (S24)) : Option (Bool) := (soritesref06_Vars.f k a1_0 l1_1).bind fun t314 => (soritesref10_Covers.l0 k t314 0 a0_0 l0_1 a1_0 l1_1)
end
section
attribute [local go_sem] yaq_ yao_ max_two min_two yal_ yak_ yap_ yan_
mutual
def soritesref10_Greater.j0 : Nat → Bool → Int → List (S24) → Int → List (S24) → Option (Bool)
 | 0, _, _, _, _, _ => none
 | k + 1, x16, x322000, x322001, x323000, x323001 => if x16 = true then (some false) else ((soritesref06_Flat.f k x322000 x322001).bind fun t325 => ((soritesref06_Flat.f k x323000 x323001).bind fun t328 => (if (t325.length : Int) = (t328.length : Int) then (if x322000 < 0 then (soritesref10_Greater.j1 k (t325.length : Int) (t328.length : Int) true x322000 x322001 x323000 x323001) else (soritesref10_Greater.j1 k (t325.length : Int) (t328.length : Int) (decide (x323000 < 0)) x322000 x322001 x323000 x323001)) else (soritesref10_Greater.j1 k (t325.length : Int) (t328.length : Int) true x322000 x322001 x323000 x323001))))
def soritesref10_Greater.j1 : Nat → Int → Int → Bool → Int → List (S24) → Int → List (S24) → Option (Bool)
 | 0, _, _, _, _, _, _, _ => none
 | k + 1, x5, x6, x35, x322000, x322001, x323000, x323001 => if x35 = true then (some (decide (x5 > x6))) else (if x322000 = x323000 then (if (x322001.length : Int) = (x323001.length : Int) then (soritesref10_Greater.l0 k 0 x322000 x322001 x323000 x323001) else (some (decide ((x322001.length : Int) > (x323001.length : Int))))) else (some (decide (x322000 > x323000))))
def soritesref10_Greater.l0 : Nat → Int → Int → List (S24) → Int → List (S24) → Option (Bool)
 | 0, _, _, _, _, _ => none
 | k + 1, x7, x322000, x322001, x323000, x323001 => if 0 ≤ x7 then (if x7 < (x322001.length : Int) then (if x7 < (x323001.length : Int) then ((soritesref06_Same.f k ((rd_T24 x322001 x7).f0) ((rd_T24 x322001 x7).f1) ((rd_T24 x323001 x7).f0) ((rd_T24 x323001 x7).f1)).bind fun t333 => (if t333 = true then (soritesref10_Greater.l0 k (wrap64 (x7 + 1)) x322000 x322001 x323000 x323001) else ((soritesref10_Greater.f k ((rd_T24 x322001 x7).f0) ((rd_T24 x322001 x7).f1) ((rd_T24 x323001 x7).f0) ((rd_T24 x323001 x7).f1)).bind fun t336 => (some t336)))) else (none)) else (none)) else (none)
def soritesref10_Greater.f : Nat → Int → List (S24) → Int → List (S24) → Option (Bool)
 | 0, _, _, _, _ => none
 | k + 1, a0_0, l0_1, a1_0, l1_1 => (soritesref06_Same.f k a0_0 l0_1 a1_0 l1_1).bind fun t323 => (if t323 = true then (soritesref10_Greater.j0 k true a0_0 l0_1 a1_0 l1_1) else ((soritesref10_Covers.f k a0_0 l0_1 a1_0 l1_1).bind fun t324 => (soritesref10_Greater.j0 k (!t324) a0_0 l0_1 a1_0 l1_1)))
end
end
end Go.Proofs.Ytpfddihcikiofaa.P
