/- The law KboStable holds of every input. Part 3 of 6: PxTermClone, GStore, GSubst, GApply1, GMapA, GRet, GWalk, GRange, GSize, GClone, GPlaces, GFlat, PxCmpIsNaNInt, PxCmpCompareInt, PxCmpOrInt. -/
import Derived.Test.YtpfddihcikiofaaZKboStable2
import Derived.RangeFuncNested
import Derived.RangeFuncBound
import Derived.RangeFuncCalls
import Derived.RangeFuncLeaves
import Derived.Shelf.Abstract
import Derived.Shelf.RegionOpen
import Derived.WalkKit
import Derived.OwnWalkIn
import Derived.TacticsInMore
import Derived.LoopNIn
import Derived.LoopIn
import Derived.Deep.RegionLawGrows
import Derived.Maps.OwnIn
import Derived.Deep.DeepMust
import Derived.WalkSpells
import Derived.Test.YtpfddihcikiofaaZKboStable1
section
namespace Go.Proofs.Ytpfddihcikiofaa.P
open Go.RowKit Go.Proofs.YtpfddihcikiofaaW.PrintWords Go.Proofs.YtpfddihcikiofaaW.PrintLast Go.Proofs.YtpfddihcikiofaaW.PrintMore
attribute [local go_sem] max2_int min2_int max_two min_two max_three min_three max_four min_four
set_option linter.unusedVariables false
set_option linter.unusedSimpArgs false
mutual
def term_Clone.l0 : Nat → List (S30) → Int → Int → Int → List (S30) → Option (Int × (List (S30)))
  | 0, _, _, _, _, _ => none
  | k + 1, x10, x11, x12, x196000, x196001 => if x12 < x11 then (if 0 ≤ x12 then (if x12 < (x10.length : Int) then ((term_Clone.f k ((rd_T30 x10 x12).f0) ((rd_T30 x10 x12).f1)).bind fun bt201 => (if x196001.length < 4398046511104 then (term_Clone.l0 k x10 x11 (wrap64 (x12 + 1)) x196000 (x196001 ++ [(⟨bt201.1, bt201.2⟩ : S30)])) else (none))) else (none)) else (none)) else (some (x196000, x196001))
def term_Clone.f : Nat → Int → List (S30) → Option (Int × (List (S30)))
  | 0, _, _ => none
  | k + 1, a0_0, l0_1 => (term_parts.f a0_0 l0_1).bind fun t196 => (term_Clone.l0 k t196 (t196.length : Int) 0 a0_0 ([] : List (S30)))
end
def term_Clone.T5 : Bool × List (List Nat × List Nat) := (true, [([], []), ([0], [0]), ([], []), ([2], [2]), ([3], [3]), ([1, 4, 3], [1, 4]), ([0, 1, 2, 3, 4, 5], []), ([6, 5, 5, 0, 1, 2, 3, 4, 5], [5, 6])])
def term_Clone.B5 : List Nat := [0, 1, 0, 4, 12, 31, 63, 127]
theorem term_Clone.tab5 : rtab .any (opsOf Try.f38 5) = term_Clone.T5 := by kernel_rfl
theorem term_Clone.bits5 : waitsOk term_Clone.T5.2 term_Clone.B5 = true := by kernel_rfl
set_option maxHeartbeats 8000000 in
set_option maxRecDepth 100000 in
theorem term_Clone.calls (k : Nat) : ∀ (a0_0 : Int) (A0_1 : Option Addr) (c0_1 : Nat) (l0_1 : List (S30)) (r1 : Int) (r2 : List (S30)) (w : World) (hr0_1 : Kd.C k30 w A0_1 l0_1.length l0_1) (hc0_1 : l0_1.length ≤ c0_1) (h : term_Clone.f k a0_0 l0_1 = some (r1, r2)),
    Calls Try.prog 38 #[.agg #[.int .i64 a0_0, .slice A0_1 l0_1.length c0_1]] w fun e w' => ∃ v1_ : Value, e = .returned (.agg #[.int .i64 r1, v1_]) ∧ Kd.R k30 30 w' w.heap.size (fun _ => True) v1_ r2 ∧ Below w.heap.size w w' := by
  induction k using Nat.strongRecOn with
  | _ k ih =>
  intro a0_0 A0_1 c0_1 l0_1 r1 r2 w hr0_1 hc0_1 h
  cases k with
  | zero => exact absurd h (by simp [term_Clone.f])
  | succ k =>
  simp only [term_Clone.f] at h
  have hu30 := Try.underlying30
  have HR0_1 := Aside0.mk hr0_1
  have HC0_1 := Aside0.mk hc0_1
  clear hr0_1 hc0_1
  have HB := Aside0.mk (Below.refl w.heap.size w)
  have H : ((term_parts.f a0_0 l0_1).bind fun t196 => (term_Clone.l0 k t196 (t196.length : Int) 0 a0_0 ([] : List (S30)))) = some (r1, r2) := h
  clear h
  replace H := Option.bind_eq_some_iff.mp H
  obtain ⟨t196, A20, H⟩ := H
  replace H : (term_Clone.l0 k t196 (t196.length : Int) 0 a0_0 ([] : List (S30))) = some (r1, r2) := H
  have A2 := Aside0.mk A20
  clear A20
  have H' := Aside0.mk H
  clear H
  go_enter Try.func38, Try.ntmps38
  go_wp2_with (first | ((with_reducible refine gate_dst (N := 1) rfl ?_); refine box_event ?hg (N := 1) ?hd (cs := #[.int .i64 a0_0, .slice A0_1 l0_1.length c0_1]) (t := 30) ?hr ?_; (case hd => rfl); (case hg => rfl); (case hr => first | (go_simp; done) | (go_simp; rfl)); intro gb193 hg w3 hbox hb; have n0_ := Aside0.mk (below_step (by repeat (first | (with_reducible first | exact HB.out | apply below_alloc | apply pw_below_drewN | apply below_drew1) | exact HB.out)) hb); have n1_ := Aside0.mk (hbox); have n2_ := Aside0.mk ((by rw [hg]; exact (below_size (by repeat (first | (with_reducible first | exact HB.out | apply below_alloc | apply pw_below_drewN | apply below_drew1) | exact HB.out))) : w.heap.size ≤ gb193)); have n3_ := Aside0.mk ((by rw [hg]; exact (below_size (by repeat (first | (with_reducible first | exact HB.out | apply below_alloc | apply pw_below_drewN | apply below_drew1) | exact HB.out))) : w.heap.size ≤ gb193)); clear HB; have HB := n0_; have BK193 := n1_; have GW193 := n2_; have GE193 := n3_; clear n0_ n1_ n2_ n3_; clear hb hbox hg) | ((with_reducible refine gate_dst (N := 2) rfl ?_); refine box_event ?hg (N := 2) ?hd (cs := #[.int .i64 0, .slice none 0 0]) (t := 30) ?hr ?_; (case hd => rfl); (case hg => rfl); (case hr => first | (go_simp; done) | (go_simp; rfl)); intro gb194 hg w4 hbox hb; have n0_ := Aside0.mk (blk_below (g := gb193) (o := .cells #[.int .i64 a0_0, .slice A0_1 l0_1.length c0_1] 30 (0, 0)) (by (with_reducible repeat (first | refine blk_drewN ?_ _ | refine blk_drew ?_ | refine blk_alloc ?_ _)); exact BK193.out) hb); have n1_ := Aside0.mk (below_step (by repeat (first | (with_reducible first | exact HB.out | apply below_alloc | apply pw_below_drewN | apply below_drew1 | refine below_set ?_ GE193.out) | exact HB.out)) hb); have n2_ := Aside0.mk (hbox); have n3_ := Aside0.mk ((by rw [hg]; exact (below_size (by repeat (first | (with_reducible first | exact HB.out | apply below_alloc | apply pw_below_drewN | apply below_drew1 | refine below_set ?_ GE193.out) | exact HB.out))) : w.heap.size ≤ gb194)); have n4_ := Aside0.mk ((by rw [hg]; exact (below_size (by repeat (first | (with_reducible first | exact HB.out | apply below_alloc | apply pw_below_drewN | apply below_drew1 | refine below_set ?_ GE193.out) | exact HB.out))) : w.heap.size ≤ gb194)); have n5_ := Aside0.mk ((by rw [hg]; exact Nat.ne_of_lt (blk_lt (g := gb193) (o := .cells #[.int .i64 a0_0, .slice A0_1 l0_1.length c0_1] 30 (0, 0)) (by (with_reducible repeat (first | refine blk_drewN ?_ _ | refine blk_drew ?_ | refine blk_alloc ?_ _)); exact BK193.out)) : gb193 ≠ gb194)); have n6_ := Aside0.mk ((by rw [hg]; exact Nat.ne_of_gt (blk_lt (g := gb193) (o := .cells #[.int .i64 a0_0, .slice A0_1 l0_1.length c0_1] 30 (0, 0)) (by (with_reducible repeat (first | refine blk_drewN ?_ _ | refine blk_drew ?_ | refine blk_alloc ?_ _)); exact BK193.out)) : gb194 ≠ gb193)); clear BK193; clear HB; have BK193 := n0_; have HB := n1_; have BK194 := n2_; have GW194 := n3_; have GE194 := n4_; have NB193_194 := n5_; have NB194_193 := n6_; clear n0_ n1_ n2_ n3_ n4_ n5_ n6_; clear hb hbox hg; have hnb5 := NB193_194.out; have hnc5 := NB194_193.out; have hcz6_0 : w4.cell? ⟨gb193, 0, none⟩ = some (.int .i64 a0_0) := (blk_cell BK193.out 0).trans rfl; have hcz6_1 : w4.cell? ⟨gb193, 1, none⟩ = some (.slice A0_1 l0_1.length c0_1) := (blk_cell BK193.out 1).trans rfl; have hfz6_0 := blk_frozen BK193.out 0; have hfz6_1 := blk_frozen BK193.out 1) | ((with_reducible refine gate_dst (N := 3) rfl ?_); refine box_event ?hg (N := 3) ?hd (cs := #[.int .i64 0, .slice none 0 0]) (t := 30) ?hr ?_; (case hd => rfl); (case hg => rfl); (case hr => first | (go_simp; done) | (go_simp; rfl)); intro gb195 hg w7 hbox hb; have n0_ := Aside0.mk (blk_below (g := gb193) (o := .cells #[.int .i64 a0_0, .slice A0_1 l0_1.length c0_1] 30 (0, 0)) (by (with_reducible repeat (first | refine blk_drewN ?_ _ | refine blk_drew ?_ | refine blk_alloc ?_ _)); exact BK193.out) hb); have n1_ := Aside0.mk (blk_below (g := gb194) (o := .cells #[.int .i64 0, .slice none 0 0] 30 (0, 0)) (by (with_reducible repeat (first | refine blk_drewN ?_ _ | refine blk_drew ?_ | refine blk_alloc ?_ _)); exact BK194.out) hb); have n2_ := Aside0.mk (below_step (by repeat (first | (with_reducible first | exact HB.out | apply below_alloc | apply pw_below_drewN | apply below_drew1 | refine below_set ?_ GE193.out | refine below_set ?_ GE194.out) | exact HB.out)) hb); have n3_ := Aside0.mk (hbox); have n4_ := Aside0.mk ((by rw [hg]; exact (below_size (by repeat (first | (with_reducible first | exact HB.out | apply below_alloc | apply pw_below_drewN | apply below_drew1 | refine below_set ?_ GE193.out | refine below_set ?_ GE194.out) | exact HB.out))) : w.heap.size ≤ gb195)); have n5_ := Aside0.mk ((by rw [hg]; exact (below_size (by repeat (first | (with_reducible first | exact HB.out | apply below_alloc | apply pw_below_drewN | apply below_drew1 | refine below_set ?_ GE193.out | refine below_set ?_ GE194.out) | exact HB.out))) : w.heap.size ≤ gb195)); have n6_ := Aside0.mk ((by rw [hg]; exact Nat.ne_of_lt (blk_lt (g := gb193) (o := .cells #[.int .i64 a0_0, .slice A0_1 l0_1.length c0_1] 30 (0, 0)) (by (with_reducible repeat (first | refine blk_drewN ?_ _ | refine blk_drew ?_ | refine blk_alloc ?_ _)); exact BK193.out)) : gb193 ≠ gb195)); have n7_ := Aside0.mk ((by rw [hg]; exact Nat.ne_of_gt (blk_lt (g := gb193) (o := .cells #[.int .i64 a0_0, .slice A0_1 l0_1.length c0_1] 30 (0, 0)) (by (with_reducible repeat (first | refine blk_drewN ?_ _ | refine blk_drew ?_ | refine blk_alloc ?_ _)); exact BK193.out)) : gb195 ≠ gb193)); have n8_ := Aside0.mk ((by rw [hg]; exact Nat.ne_of_lt (blk_lt (g := gb194) (o := .cells #[.int .i64 0, .slice none 0 0] 30 (0, 0)) (by (with_reducible repeat (first | refine blk_drewN ?_ _ | refine blk_drew ?_ | refine blk_alloc ?_ _)); exact BK194.out)) : gb194 ≠ gb195)); have n9_ := Aside0.mk ((by rw [hg]; exact Nat.ne_of_gt (blk_lt (g := gb194) (o := .cells #[.int .i64 0, .slice none 0 0] 30 (0, 0)) (by (with_reducible repeat (first | refine blk_drewN ?_ _ | refine blk_drew ?_ | refine blk_alloc ?_ _)); exact BK194.out)) : gb195 ≠ gb194)); clear BK193; clear BK194; clear HB; have BK193 := n0_; have BK194 := n1_; have HB := n2_; have BK195 := n3_; have GW195 := n4_; have GE195 := n5_; have NB193_195 := n6_; have NB195_193 := n7_; have NB194_195 := n8_; have NB195_194 := n9_; clear n0_ n1_ n2_ n3_ n4_ n5_ n6_ n7_ n8_ n9_; clear hb hbox hg; have hnb8 := NB195_193.out; have hnc8 := NB193_195.out; have hnb9 := NB195_194.out; have hnc9 := NB194_195.out; have hcz10_0 : w7.cell? ⟨gb195, 0, none⟩ = some (.int .i64 0) := (blk_cell BK195.out 0).trans rfl; have hcz10_1 : w7.cell? ⟨gb195, 1, none⟩ = some (.slice none 0 0) := (blk_cell BK195.out 1).trans rfl; have hfz10_0 := blk_frozen BK195.out 0; have hfz10_1 := blk_frozen BK195.out 1) | ((with_reducible refine gate_store (t := 30) (p := 3) rfl ?_); refine store_event (t := 30) (p := 3) (v := ?vo_w11) (w1 := ((w7.setCell ⟨gb195, 0, none⟩ (.int .i64 a0_0)).setCell ⟨gb195, 1, none⟩ (.slice none 0 0))) ?hg ?ho ?hn ?hr ?_; (case ho => rfl); (case hg => rfl); (case hn => rfl); (case hr => first | (go_simp; done) | (go_simp; rfl)); intro w11 hw; have n0_ : Aside0 (w11.heap[gb193]? = some (.cells #[.int .i64 a0_0, .slice A0_1 l0_1.length c0_1] 30 (0, 0))) := ⟨(by rw [hw]; exact (by (with_reducible repeat (first | refine blk_drewN ?_ _ | refine blk_drew ?_ | refine blk_alloc ?_ _)); refine blk_far ?_ NB193_195.out _; (with_reducible repeat (first | refine blk_drewN ?_ _ | refine blk_drew ?_ | refine blk_alloc ?_ _)); refine blk_far ?_ NB193_195.out _; (with_reducible repeat (first | refine blk_drewN ?_ _ | refine blk_drew ?_ | refine blk_alloc ?_ _)); exact BK193.out))⟩; have n1_ : Aside0 (w11.heap[gb194]? = some (.cells #[.int .i64 0, .slice none 0 0] 30 (0, 0))) := ⟨(by rw [hw]; exact (by (with_reducible repeat (first | refine blk_drewN ?_ _ | refine blk_drew ?_ | refine blk_alloc ?_ _)); refine blk_far ?_ NB194_195.out _; (with_reducible repeat (first | refine blk_drewN ?_ _ | refine blk_drew ?_ | refine blk_alloc ?_ _)); refine blk_far ?_ NB194_195.out _; (with_reducible repeat (first | refine blk_drewN ?_ _ | refine blk_drew ?_ | refine blk_alloc ?_ _)); exact BK194.out))⟩; have n2_ : Aside0 (w11.heap[gb195]? = some (.cells #[.int .i64 a0_0, .slice none 0 0] 30 (0, 0))) := ⟨(by rw [hw]; exact (by (with_reducible repeat (first | refine blk_drewN ?_ _ | refine blk_drew ?_ | refine blk_alloc ?_ _)); refine blk_put (cs := #[.int .i64 a0_0, .slice none 0 0]) ?_ 1 _ rfl; (with_reducible repeat (first | refine blk_drewN ?_ _ | refine blk_drew ?_ | refine blk_alloc ?_ _)); refine blk_put (cs := #[.int .i64 0, .slice none 0 0]) ?_ 0 _ rfl; (with_reducible repeat (first | refine blk_drewN ?_ _ | refine blk_drew ?_ | refine blk_alloc ?_ _)); exact BK195.out))⟩; have n3_ : Aside0 (Below w.heap.size w w11) := ⟨(by rw [hw]; exact (by repeat (first | (with_reducible first | exact HB.out | apply below_alloc | apply pw_below_drewN | apply below_drew1 | refine below_set ?_ GE193.out | refine below_set ?_ GE194.out | refine below_set ?_ GE195.out) | exact HB.out)))⟩; clear hw; clear BK193; clear BK194; clear BK195; clear HB; have BK193 := n0_; have BK194 := n1_; have BK195 := n2_; have HB := n3_; clear n0_ n1_ n2_ n3_; have hcz12_0 : w11.cell? ⟨gb193, 0, none⟩ = some (.int .i64 a0_0) := (blk_cell BK193.out 0).trans rfl; have hcz12_1 : w11.cell? ⟨gb193, 1, none⟩ = some (.slice A0_1 l0_1.length c0_1) := (blk_cell BK193.out 1).trans rfl; have hfz12_0 := blk_frozen BK193.out 0; have hfz12_1 := blk_frozen BK193.out 1) | ((with_reducible refine gate_callee (f := 74) rfl ?_); refine goesL_ (some 10) rfl rfl Try.func74 (by kernel_rfl) rfl #[.agg #[.int .i64 a0_0, .slice A0_1 l0_1.length c0_1]] rfl (by (try simp only [List.map_toArray, List.map_cons, List.map_nil]); first | done | rfl | (simp only [List.length_drop, List.length_take]; rfl)) ?_; (with_reducible refine (term_parts.calls a0_0 (fun k_ => k_ < w.heap.size) _ _ l0_1 t196 _ ?side1 A2.out).mono ?_); (case side1 => exact Kd.V_mk HC0_1.out (Kd.F_below (Kd.C_F k30_heap HR0_1.out) (by repeat (first | (with_reducible first | exact HB.out | apply below_alloc | apply pw_below_drewN | apply below_drew1 | refine below_set ?_ GE193.out | refine below_set ?_ GE194.out | refine below_set ?_ GE195.out) | exact HB.out)))); rintro e w13 ⟨v197, rfl, ho0, hb⟩; refine ⟨_, rfl, ?_⟩; have n0_ := Aside0.mk (Kd.V_lower (Kd.V_mono (ok' := fun k_ => k_ ≠ gb193 ∧ k_ ≠ gb194 ∧ k_ ≠ gb195) ho0 (fun k_ hk_ => ⟨Or.elim hk_ (fun hs_ => fun e_ => Nat.not_le.2 hs_ (by rw [e_]; exact GW193.out)) (fun hn_ => (Kd.freshB (g := gb193) (o := .cells #[.int .i64 a0_0, .slice A0_1 l0_1.length c0_1] 30 (0, 0)) (by (with_reducible repeat (first | refine blk_drewN ?_ _ | refine blk_drew ?_ | refine blk_alloc ?_ _)); exact BK193.out) k_ hn_)), Or.elim hk_ (fun hs_ => fun e_ => Nat.not_le.2 hs_ (by rw [e_]; exact GW194.out)) (fun hn_ => (Kd.freshB (g := gb194) (o := .cells #[.int .i64 0, .slice none 0 0] 30 (0, 0)) (by (with_reducible repeat (first | refine blk_drewN ?_ _ | refine blk_drew ?_ | refine blk_alloc ?_ _)); exact BK194.out) k_ hn_)), Or.elim hk_ (fun hs_ => fun e_ => Nat.not_le.2 hs_ (by rw [e_]; exact GW195.out)) (fun hn_ => (Kd.freshB (g := gb195) (o := .cells #[.int .i64 a0_0, .slice none 0 0] 30 (0, 0)) (by (with_reducible repeat (first | refine blk_drewN ?_ _ | refine blk_drew ?_ | refine blk_alloc ?_ _)); exact BK195.out) k_ hn_))⟩)) (below_size (by repeat (first | (with_reducible first | exact HB.out | apply below_alloc | apply pw_below_drewN | apply below_drew1 | refine below_set ?_ GE193.out | refine below_set ?_ GE194.out | refine below_set ?_ GE195.out) | exact HB.out)))); have n1_ := Aside0.mk (blk_below (g := gb193) (o := .cells #[.int .i64 a0_0, .slice A0_1 l0_1.length c0_1] 30 (0, 0)) (by (with_reducible repeat (first | refine blk_drewN ?_ _ | refine blk_drew ?_ | refine blk_alloc ?_ _)); exact BK193.out) hb); have n2_ := Aside0.mk (blk_below (g := gb194) (o := .cells #[.int .i64 0, .slice none 0 0] 30 (0, 0)) (by (with_reducible repeat (first | refine blk_drewN ?_ _ | refine blk_drew ?_ | refine blk_alloc ?_ _)); exact BK194.out) hb); have n3_ := Aside0.mk (blk_below (g := gb195) (o := .cells #[.int .i64 a0_0, .slice none 0 0] 30 (0, 0)) (by (with_reducible repeat (first | refine blk_drewN ?_ _ | refine blk_drew ?_ | refine blk_alloc ?_ _)); exact BK195.out) hb); have n4_ := Aside0.mk (below_step (by repeat (first | (with_reducible first | exact HB.out | apply below_alloc | apply pw_below_drewN | apply below_drew1 | refine below_set ?_ GE193.out | refine below_set ?_ GE194.out | refine below_set ?_ GE195.out) | exact HB.out)) hb); clear BK193; clear BK194; clear BK195; clear HB; have HO198 := n0_; have BK193 := n1_; have BK194 := n2_; have BK195 := n3_; have HB := n4_; clear n0_ n1_ n2_ n3_ n4_; (try clear hb); (try clear hb2); (try clear hk); (try clear hi); (try clear ho0); obtain ⟨Ao14, co14, eo14⟩ := Kd.V_slice HO198.out; subst eo14))
  go_loopg [12] k (fun kq v12 w' => ∃ (x12_1 : Int) (x196001_1 : List (S30)) (u196001 : Value), v12 = .int .i64 x12_1 ∧ Aside0 (term_Clone.l0 kq t196 (t196.length : Int) x12_1 a0_0 x196001_1 = some (r1, r2)) ∧ Aside0 (kq ≤ k) ∧ Aside0 (Kd.V k30 30 w' w.heap.size (fun k_ => some k_ ≠ (u196001 : Value).ownBlock ∧ k_ ≠ gb193 ∧ k_ ≠ gb194 ∧ k_ ≠ gb195) (.slice Ao14 t196.length co14) t196) ∧ Aside0 (Kd.R k30 30 w' w.heap.size (fun k_ => k_ ≠ gb193 ∧ k_ ≠ gb194 ∧ k_ ≠ gb195) u196001 x196001_1) ∧ Aside0 (w'.heap[gb193]? = some (.cells #[.int .i64 a0_0, (.slice A0_1 l0_1.length c0_1)] 30 (0, 0))) ∧ Aside0 (w'.heap[gb194]? = some (.cells #[.int .i64 0, (.slice none 0 0)] 30 (0, 0))) ∧ Aside0 (w'.heap[gb195]? = some (.cells #[.int .i64 a0_0, u196001] 30 (0, 0))) ∧ Aside0 (Below w.heap.size w w'))
  case atStart => exact ⟨(0), (([] : List (S30))), (.slice none 0 0), (by first | rfl | (simp; done) | (simp [*]; done)), H', ⟨Nat.le_refl _⟩, ⟨by (with_reducible repeat (first | apply Kd.V_alloc | apply Kd.V_drewN | apply Kd.V_drew)); exact Kd.V_mono HO198.out (fun _ hk => ⟨(by simp [Value.ownBlock]), ⟨hk.1, ⟨hk.2.1, hk.2.2⟩⟩⟩)⟩, ⟨by first | exact Kd.R_nil _ _ _ _ _ | exact Kd.N_nil _ _ _ _ _ | exact Kd.V_nil _ _ _ _ _ | exact Kd.Q_nil _ _ _ _ _ | exact Kd.S_nil _ _ _ _ _⟩, ⟨by (with_reducible repeat (first | refine blk_drewN ?_ _ | refine blk_drew ?_ | refine blk_alloc ?_ _)); exact BK193.out⟩, ⟨by (with_reducible repeat (first | refine blk_drewN ?_ _ | refine blk_drew ?_ | refine blk_alloc ?_ _)); exact BK194.out⟩, ⟨by (with_reducible repeat (first | refine blk_drewN ?_ _ | refine blk_drew ?_ | refine blk_alloc ?_ _)); exact BK195.out⟩, ⟨by repeat (first | (with_reducible first | exact HB.out | apply below_alloc | apply pw_below_drewN | apply below_drew1 | refine below_set ?_ GE193.out | refine below_set ?_ GE194.out | refine below_set ?_ GE195.out) | exact HB.out)⟩⟩
  case round =>
    clear H'
    try clear p2
    try clear c3
    try clear c5
    try clear c7
    try clear c8
    try clear c9
    try clear hcz10_0
    try clear hcz10_1
    try clear hcz12_0
    try clear hcz12_1
    try clear hcz6_0
    try clear hcz6_1
    try clear hfz10_0
    try clear hfz10_1
    try clear hfz12_0
    try clear hfz12_1
    try clear hfz6_0
    try clear hfz6_1
    obtain ⟨x12_1, x196001_1, u196001, rfl, HA, HK1, HO_10, HO_196001, BK193, BK194, BK195, HB⟩ := hrel
    cases gk with
    | zero => exact absurd HA.out (by simp [term_Clone.l0])
    | succ k1 =>
      have H := HA.out
      clear HA
      simp only [term_Clone.l0] at H
      by_cases c15 : x12_1 < (t196.length : Int)
      · rw [if_pos c15] at H
        have c15b0 : decide (x12_1 < (t196.length : Int)) = true := decide_eq_true c15
        clear c15
        by_cases c16 : 0 ≤ x12_1
        · rw [if_pos c16] at H
          have c16b0 : decide (0 ≤ x12_1) = true := decide_eq_true c16
          clear c16
          by_cases c17 : x12_1 < (t196.length : Int)
          · rw [if_pos c17] at H
            have c17b0 : decide (x12_1 < (t196.length : Int)) = true := decide_eq_true c17
            clear c17
            replace H := Option.bind_eq_some_iff.mp H
            obtain ⟨⟨t201, t202⟩, A180, H⟩ := H
            replace H : (if x196001_1.length < 4398046511104 then (term_Clone.l0 k1 t196 (t196.length : Int) (wrap64 (x12_1 + 1)) a0_0 (x196001_1 ++ [(⟨t201, t202⟩ : S30)])) else (none)) = some (r1, r2) := H
            have A18 := Aside0.mk A180
            clear A180
            by_cases c19 : x196001_1.length < 4398046511104
            · rw [if_pos c19] at H
              have LMc19 := Aside0.mk c19
              clear c19
              obtain ⟨y205, hy205⟩ : ∃ y_ : List (S30), y_ = (x196001_1 ++ [(⟨t201, t202⟩ : S30)]) := ⟨_, rfl⟩
              replace H : (term_Clone.l0 k1 t196 (t196.length : Int) (wrap64 (x12_1 + 1)) a0_0 y205) = some (r1, r2) := by first | (rw [hy205]; with_reducible exact H) | (have H2_ := (Option.bind_some _ _).symm.trans H; rw [hy205]; with_reducible exact H2_) | (have H2_ := (Option.bind_some _ _).symm.trans H; with_reducible exact H2_) | with_reducible exact H | (rw [hy205]; exact H) | exact H
              have Ny205 := Aside0.mk hy205
              clear hy205
              have H' := Aside0.mk H
              clear H
              have p199 : 0 ≤ (x12_1 : Int) := of_decide_eq_true (by first | (with_reducible assumption) | assumption)
              have q199 : x12_1 < (t196.length : Int) := of_decide_eq_true (by first | (with_reducible assumption) | assumption)
              obtain ⟨ad199, A199_1, c199_1, e199, hx199_0, hx199_1, hl199_1, hi199_1⟩ := at_T30 (Kd.V_reads' HO_10.out).2.2 x12_1 p199 q199
              cases e199
              obtain ⟨ce199, hce199, hMe199, hcc199⟩ := Kd.V_get HO_10.out z30 x12_1 p199 (by first | exact q199 | exact of_decide_eq_true (by first | (with_reducible assumption) | assumption) | (have e_ := (Kd.V_reads' HO_10.out).1; omega))
              obtain ⟨ua199_1, uc199_1, rfl, ul199_1, ge199_1⟩ := k30_openF hMe199
              have hv199_1 := hcc199 1 _ rfl
              rw [add_field _ _ 1 (by omega)] at hv199_1
              replace hv199_1 := Option.some.inj (hv199_1.symm.trans hx199_1)
              injection hv199_1 with hva_ hvn_ hvc_
              rw [hva_] at ge199_1
              rw [hvc_] at ul199_1
              have HL199_1 := Aside0.mk (show Kd.V k30 30 _ w.heap.size _ _ ((rd_T30 t196 x12_1).f1) from Kd.V_mk ul199_1 ge199_1)
              clear hva_ hvn_ hvc_ ge199_1 ul199_1
              clear hcc199 hce199
              have HR199_1 := Aside0.mk hi199_1
              have HC199_1 := Aside0.mk hl199_1
              clear hi199_1 hl199_1
              replace p199 := eq_true p199
              replace q199 := eq_true q199
              try go_wp2_with (first | ((with_reducible refine gate_dst (N := 5) rfl ?_); refine box_event ?hg (N := 5) ?hd (cs := #[.int .i64 0, .slice none 0 0]) (t := 30) ?hr ?_; (case hd => rfl); (case hg => rfl); (case hr => first | (go_simp; done) | (go_simp; rfl)); intro gb200 hg w20 hbox hb; have n0_ := Aside0.mk (Kd.V_below (Kd.V_elderB (by (with_reducible repeat (first | apply Kd.V_alloc | apply Kd.V_drewN | apply Kd.V_drew)); exact HO_10.out) gb200 (Nat.le_of_eq hg.symm)) hb); have n1_ := Aside0.mk (Kd.R_below (Kd.R_elderB (by (with_reducible repeat (first | apply Kd.R_alloc | apply Kd.R_drewN | apply Kd.R_drew)); exact HO_196001.out) gb200 (Nat.le_of_eq hg.symm)) hb); have n2_ := Aside0.mk (Kd.V_below (Kd.V_elderB (by (with_reducible repeat (first | apply Kd.V_alloc | apply Kd.V_drewN | apply Kd.V_drew)); exact HL199_1.out) gb200 (Nat.le_of_eq hg.symm)) hb); have n3_ := Aside0.mk (blk_below (g := gb193) (o := .cells #[.int .i64 a0_0, .slice A0_1 l0_1.length c0_1] 30 (0, 0)) (by (with_reducible repeat (first | refine blk_drewN ?_ _ | refine blk_drew ?_ | refine blk_alloc ?_ _)); exact BK193.out) hb); have n4_ := Aside0.mk (blk_below (g := gb194) (o := .cells #[.int .i64 0, .slice none 0 0] 30 (0, 0)) (by (with_reducible repeat (first | refine blk_drewN ?_ _ | refine blk_drew ?_ | refine blk_alloc ?_ _)); exact BK194.out) hb); have n5_ := Aside0.mk (blk_below (g := gb195) (o := .cells #[.int .i64 a0_0, u196001] 30 (0, 0)) (by (with_reducible repeat (first | refine blk_drewN ?_ _ | refine blk_drew ?_ | refine blk_alloc ?_ _)); exact BK195.out) hb); have n6_ := Aside0.mk (Kd.C_below (by repeat (first | (with_reducible exact HR199_1.out) | (with_reducible refine Kd.C_alloc ?_ _) | (with_reducible refine Kd.C_drewN ?_ _) | (with_reducible refine Kd.C_drew ?_) | exact HR199_1.out)) hb); have n7_ := Aside0.mk (below_step (by repeat (first | (with_reducible first | exact HB.out | apply below_alloc | apply pw_below_drewN | apply below_drew1 | refine below_set ?_ GE193.out | refine below_set ?_ GE194.out | refine below_set ?_ GE195.out) | exact HB.out)) hb); have n8_ := Aside0.mk (hbox); have n9_ := Aside0.mk ((by rw [hg]; exact (below_size (by repeat (first | (with_reducible first | exact HB.out | apply below_alloc | apply pw_below_drewN | apply below_drew1 | refine below_set ?_ GE193.out | refine below_set ?_ GE194.out | refine below_set ?_ GE195.out) | exact HB.out))) : w.heap.size ≤ gb200)); have n10_ := Aside0.mk ((by rw [hg]; exact (below_size (by repeat (first | (with_reducible first | exact HB.out | apply below_alloc | apply pw_below_drewN | apply below_drew1 | refine below_set ?_ GE193.out | refine below_set ?_ GE194.out | refine below_set ?_ GE195.out) | exact HB.out))) : w.heap.size ≤ gb200)); have n11_ := Aside0.mk ((by rw [hg]; exact Nat.ne_of_lt (blk_lt (g := gb193) (o := .cells #[.int .i64 a0_0, .slice A0_1 l0_1.length c0_1] 30 (0, 0)) (by (with_reducible repeat (first | refine blk_drewN ?_ _ | refine blk_drew ?_ | refine blk_alloc ?_ _)); exact BK193.out)) : gb193 ≠ gb200)); have n12_ := Aside0.mk ((by rw [hg]; exact Nat.ne_of_gt (blk_lt (g := gb193) (o := .cells #[.int .i64 a0_0, .slice A0_1 l0_1.length c0_1] 30 (0, 0)) (by (with_reducible repeat (first | refine blk_drewN ?_ _ | refine blk_drew ?_ | refine blk_alloc ?_ _)); exact BK193.out)) : gb200 ≠ gb193)); have n13_ := Aside0.mk ((by rw [hg]; exact Nat.ne_of_lt (blk_lt (g := gb194) (o := .cells #[.int .i64 0, .slice none 0 0] 30 (0, 0)) (by (with_reducible repeat (first | refine blk_drewN ?_ _ | refine blk_drew ?_ | refine blk_alloc ?_ _)); exact BK194.out)) : gb194 ≠ gb200)); have n14_ := Aside0.mk ((by rw [hg]; exact Nat.ne_of_gt (blk_lt (g := gb194) (o := .cells #[.int .i64 0, .slice none 0 0] 30 (0, 0)) (by (with_reducible repeat (first | refine blk_drewN ?_ _ | refine blk_drew ?_ | refine blk_alloc ?_ _)); exact BK194.out)) : gb200 ≠ gb194)); have n15_ := Aside0.mk ((by rw [hg]; exact Nat.ne_of_lt (blk_lt (g := gb195) (o := .cells #[.int .i64 a0_0, u196001] 30 (0, 0)) (by (with_reducible repeat (first | refine blk_drewN ?_ _ | refine blk_drew ?_ | refine blk_alloc ?_ _)); exact BK195.out)) : gb195 ≠ gb200)); have n16_ := Aside0.mk ((by rw [hg]; exact Nat.ne_of_gt (blk_lt (g := gb195) (o := .cells #[.int .i64 a0_0, u196001] 30 (0, 0)) (by (with_reducible repeat (first | refine blk_drewN ?_ _ | refine blk_drew ?_ | refine blk_alloc ?_ _)); exact BK195.out)) : gb200 ≠ gb195)); clear HO_10; clear HO_196001; clear HL199_1; clear BK193; clear BK194; clear BK195; clear HR199_1; clear HB; have HO_10 := n0_; have HO_196001 := n1_; have HL199_1 := n2_; have BK193 := n3_; have BK194 := n4_; have BK195 := n5_; have HR199_1 := n6_; have HB := n7_; have BK200 := n8_; have GW200 := n9_; have GE200 := n10_; have NB193_200 := n11_; have NB200_193 := n12_; have NB194_200 := n13_; have NB200_194 := n14_; have NB195_200 := n15_; have NB200_195 := n16_; clear n0_ n1_ n2_ n3_ n4_ n5_ n6_ n7_ n8_ n9_ n10_ n11_ n12_ n13_ n14_ n15_ n16_; clear hb hbox hg; have hnb21 := NB200_193.out; have hnc21 := NB193_200.out; have hnb22 := NB200_194.out; have hnc22 := NB194_200.out; have hnb23 := NB200_195.out; have hnc23 := NB195_200.out; have hcz24_0 : w20.cell? ⟨gb200, 0, none⟩ = some (.int .i64 0) := (blk_cell BK200.out 0).trans rfl; have hcz24_1 : w20.cell? ⟨gb200, 1, none⟩ = some (.slice none 0 0) := (blk_cell BK200.out 1).trans rfl; have hfz24_0 := blk_frozen BK200.out 0; have hfz24_1 := blk_frozen BK200.out 1))
              have n0_ : Aside0 (Kd.V k30 30 ((w20.setCell ⟨gb200, 0, none⟩ (.int .i64 ((rd_T30 t196 x12_1).f0))).setCell ⟨gb200, 1, none⟩ (.slice A199_1 ((rd_T30 t196 x12_1).f1).length c199_1)) w.heap.size (fun k_ => some k_ ≠ (u196001 : Value).ownBlock ∧ k_ ≠ gb193 ∧ k_ ≠ gb194 ∧ k_ ≠ gb195 ∧ k_ ≠ gb200) (.slice (some ad199) t196.length co14) t196) := ⟨by (with_reducible repeat (first | apply Kd.V_alloc | apply Kd.V_drewN | apply Kd.V_drew)); exact Kd.V_mono (Kd.V_far (p := ⟨gb200, 1, none⟩) (Kd.V_far (p := ⟨gb200, 0, none⟩) (Kd.V_mono HO_10.out (fun k_ hk => (⟨hk, hk.2⟩ : _ ∧ k_ ≠ gb200))) (fun _ hk => hk.2) (.int .i64 ((rd_T30 t196 x12_1).f0))) (fun _ hk => hk.2) (.slice A199_1 ((rd_T30 t196 x12_1).f1).length c199_1)) (fun _ hk => ⟨hk.1.1.1, ⟨hk.1.1.2.1, ⟨hk.1.1.2.2.1, ⟨hk.1.1.2.2.2, hk.1.2⟩⟩⟩⟩)⟩
              have n1_ : Aside0 (Kd.R k30 30 ((w20.setCell ⟨gb200, 0, none⟩ (.int .i64 ((rd_T30 t196 x12_1).f0))).setCell ⟨gb200, 1, none⟩ (.slice A199_1 ((rd_T30 t196 x12_1).f1).length c199_1)) w.heap.size (fun k_ => k_ ≠ gb193 ∧ k_ ≠ gb194 ∧ k_ ≠ gb195 ∧ k_ ≠ gb200) u196001 x196001_1) := ⟨by (with_reducible repeat (first | apply Kd.R_alloc | apply Kd.R_drewN | apply Kd.R_drew)); exact Kd.R_mono (Kd.R_far (p := ⟨gb200, 1, none⟩) (Kd.R_far (p := ⟨gb200, 0, none⟩) (Kd.R_mono HO_196001.out (fun k_ hk => (⟨hk, hk.2⟩ : _ ∧ k_ ≠ gb200))) (fun _ hk => hk.2) (.int .i64 ((rd_T30 t196 x12_1).f0))) (fun _ hk => hk.2) (.slice A199_1 ((rd_T30 t196 x12_1).f1).length c199_1)) (fun _ hk => ⟨hk.1.1.1, ⟨hk.1.1.2.1, ⟨hk.1.1.2.2, hk.1.2⟩⟩⟩)⟩
              have n2_ : Aside0 (Kd.V k30 30 ((w20.setCell ⟨gb200, 0, none⟩ (.int .i64 ((rd_T30 t196 x12_1).f0))).setCell ⟨gb200, 1, none⟩ (.slice A199_1 ((rd_T30 t196 x12_1).f1).length c199_1)) w.heap.size (fun k_ => some k_ ≠ (u196001 : Value).ownBlock ∧ k_ ≠ gb193 ∧ k_ ≠ gb194 ∧ k_ ≠ gb195 ∧ k_ ≠ gb200) (.slice A199_1 ((rd_T30 t196 x12_1).f1).length c199_1) ((rd_T30 t196 x12_1).f1)) := ⟨by (with_reducible repeat (first | apply Kd.V_alloc | apply Kd.V_drewN | apply Kd.V_drew)); exact Kd.V_mono (Kd.V_far (p := ⟨gb200, 1, none⟩) (Kd.V_far (p := ⟨gb200, 0, none⟩) (Kd.V_mono HL199_1.out (fun k_ hk => (⟨hk, hk.2⟩ : _ ∧ k_ ≠ gb200))) (fun _ hk => hk.2) (.int .i64 ((rd_T30 t196 x12_1).f0))) (fun _ hk => hk.2) (.slice A199_1 ((rd_T30 t196 x12_1).f1).length c199_1)) (fun _ hk => ⟨hk.1.1.1, ⟨hk.1.1.2.1, ⟨hk.1.1.2.2.1, ⟨hk.1.1.2.2.2, hk.1.2⟩⟩⟩⟩)⟩
              have n3_ : Aside0 (((w20.setCell ⟨gb200, 0, none⟩ (.int .i64 ((rd_T30 t196 x12_1).f0))).setCell ⟨gb200, 1, none⟩ (.slice A199_1 ((rd_T30 t196 x12_1).f1).length c199_1)).heap[gb193]? = some (.cells #[.int .i64 a0_0, .slice A0_1 l0_1.length c0_1] 30 (0, 0))) := ⟨by (with_reducible repeat (first | refine blk_drewN ?_ _ | refine blk_drew ?_ | refine blk_alloc ?_ _)); refine blk_far ?_ NB193_200.out _; (with_reducible repeat (first | refine blk_drewN ?_ _ | refine blk_drew ?_ | refine blk_alloc ?_ _)); refine blk_far ?_ NB193_200.out _; (with_reducible repeat (first | refine blk_drewN ?_ _ | refine blk_drew ?_ | refine blk_alloc ?_ _)); exact BK193.out⟩
              have n4_ : Aside0 (((w20.setCell ⟨gb200, 0, none⟩ (.int .i64 ((rd_T30 t196 x12_1).f0))).setCell ⟨gb200, 1, none⟩ (.slice A199_1 ((rd_T30 t196 x12_1).f1).length c199_1)).heap[gb194]? = some (.cells #[.int .i64 0, .slice none 0 0] 30 (0, 0))) := ⟨by (with_reducible repeat (first | refine blk_drewN ?_ _ | refine blk_drew ?_ | refine blk_alloc ?_ _)); refine blk_far ?_ NB194_200.out _; (with_reducible repeat (first | refine blk_drewN ?_ _ | refine blk_drew ?_ | refine blk_alloc ?_ _)); refine blk_far ?_ NB194_200.out _; (with_reducible repeat (first | refine blk_drewN ?_ _ | refine blk_drew ?_ | refine blk_alloc ?_ _)); exact BK194.out⟩
              have n5_ : Aside0 (((w20.setCell ⟨gb200, 0, none⟩ (.int .i64 ((rd_T30 t196 x12_1).f0))).setCell ⟨gb200, 1, none⟩ (.slice A199_1 ((rd_T30 t196 x12_1).f1).length c199_1)).heap[gb195]? = some (.cells #[.int .i64 a0_0, u196001] 30 (0, 0))) := ⟨by (with_reducible repeat (first | refine blk_drewN ?_ _ | refine blk_drew ?_ | refine blk_alloc ?_ _)); refine blk_far ?_ NB195_200.out _; (with_reducible repeat (first | refine blk_drewN ?_ _ | refine blk_drew ?_ | refine blk_alloc ?_ _)); refine blk_far ?_ NB195_200.out _; (with_reducible repeat (first | refine blk_drewN ?_ _ | refine blk_drew ?_ | refine blk_alloc ?_ _)); exact BK195.out⟩
              have n6_ : Aside0 (((w20.setCell ⟨gb200, 0, none⟩ (.int .i64 ((rd_T30 t196 x12_1).f0))).setCell ⟨gb200, 1, none⟩ (.slice A199_1 ((rd_T30 t196 x12_1).f1).length c199_1)).heap[gb200]? = some (.cells #[.int .i64 ((rd_T30 t196 x12_1).f0), .slice A199_1 ((rd_T30 t196 x12_1).f1).length c199_1] 30 (0, 0))) := ⟨by (with_reducible repeat (first | refine blk_drewN ?_ _ | refine blk_drew ?_ | refine blk_alloc ?_ _)); refine blk_put (cs := #[.int .i64 ((rd_T30 t196 x12_1).f0), .slice none 0 0]) ?_ 1 _ rfl; (with_reducible repeat (first | refine blk_drewN ?_ _ | refine blk_drew ?_ | refine blk_alloc ?_ _)); refine blk_put (cs := #[.int .i64 0, .slice none 0 0]) ?_ 0 _ rfl; (with_reducible repeat (first | refine blk_drewN ?_ _ | refine blk_drew ?_ | refine blk_alloc ?_ _)); exact BK200.out⟩
              have n7_ : Aside0 (Below w.heap.size w ((w20.setCell ⟨gb200, 0, none⟩ (.int .i64 ((rd_T30 t196 x12_1).f0))).setCell ⟨gb200, 1, none⟩ (.slice A199_1 ((rd_T30 t196 x12_1).f1).length c199_1))) := ⟨by repeat (first | (with_reducible first | exact HB.out | apply below_alloc | apply pw_below_drewN | apply below_drew1 | refine below_set ?_ GE193.out | refine below_set ?_ GE194.out | refine below_set ?_ GE195.out | refine below_set ?_ GE200.out) | exact HB.out)⟩
              (try clear HO_10)
              (try clear HO_196001)
              (try clear HL199_1)
              (try clear BK193)
              (try clear BK194)
              (try clear BK195)
              (try clear BK200)
              (try clear HB)
              generalize ((w20.setCell ⟨gb200, 0, none⟩ (.int .i64 ((rd_T30 t196 x12_1).f0))).setCell ⟨gb200, 1, none⟩ (.slice A199_1 ((rd_T30 t196 x12_1).f1).length c199_1)) = w25 at n0_ n1_ n2_ n3_ n4_ n5_ n6_ n7_ ⊢
              have HO_10 := n0_
              have HO_196001 := n1_
              have HL199_1 := n2_
              have BK193 := n3_
              have BK194 := n4_
              have BK195 := n5_
              have BK200 := n6_
              have HB := n7_
              clear n0_ n1_ n2_ n3_ n4_ n5_ n6_ n7_
              have n0_ := Aside0.mk (Kd.V_drew HO_10.out)
              have n1_ := Aside0.mk (Kd.R_drew HO_196001.out)
              have n2_ := Aside0.mk (Kd.V_drew HL199_1.out)
              have n3_ := Aside0.mk (blk_drew BK193.out)
              have n4_ := Aside0.mk (blk_drew BK194.out)
              have n5_ := Aside0.mk (blk_drew BK195.out)
              have n6_ := Aside0.mk (blk_drew BK200.out)
              have n7_ := Aside0.mk (below_drew1 HB.out)
              clear HO_10
              clear HO_196001
              clear HL199_1
              clear BK193
              clear BK194
              clear BK195
              clear BK200
              clear HB
              have HO_10 := n0_
              have HO_196001 := n1_
              have HL199_1 := n2_
              have BK193 := n3_
              have BK194 := n4_
              have BK195 := n5_
              have BK200 := n6_
              have HB := n7_
              clear n0_ n1_ n2_ n3_ n4_ n5_ n6_ n7_
              refine start_ (n := 8) (S := fun w' => w'.cell? ⟨gb195, 0, none⟩ = some (.int .i64 a0_0) ∧ w'.cell? ⟨gb195, 1, none⟩ = some (u196001) ∧ w'.cell? ⟨gb200, 0, none⟩ = some (.int .i64 ((rd_T30 t196 x12_1).f0)) ∧ w'.cell? ⟨gb200, 1, none⟩ = some (.slice A199_1 ((rd_T30 t196 x12_1).f1).length c199_1)) (ds := [7]) #[false, false, false, false, false, false, false, false] (by kernel_rfl) rfl rfl ⟨(blk_cell BK195.out 0).trans rfl, (blk_cell BK195.out 1).trans rfl, (blk_cell BK200.out 0).trans rfl, (blk_cell BK200.out 1).trans rfl⟩ (fun hHeld => ?_); refine with_tabW term_Clone.tab5 term_Clone.bits5 (fun HT_ HW_ => ?_)
              generalize w25.drew = w26 at HO_10 HO_196001 HL199_1 BK193 BK194 BK195 BK200 HB hHeld ⊢
              refine pure_ (i := 0) (N := some 16) (v := ?_) (a' := ?_) #[true, false, false, false, false, false, false, false] rfl rfl (any_of HT_.out (by kernel_rfl)) (fun _ _ _ h => h) (Or.inl ⟨by rfl, ?_⟩) ?_ ?_
              rotate_left
              · intro w'
                go_simp
                with_reducible rfl
              rotate_left
              · simp only [Act.put, List.setIfInBounds_toArray, List.set_cons_zero, List.set_cons_succ, i64_w, i32_w]
                rfl
              refine take_ (i := 1) (N := some 17) (v := ?_) (a' := ?_) #[true, true, false, false, false, false, false, false] rfl rfl (take_ofW HT_.out HW_.out (by kernel_rfl)) (fun _ _ _ h => h) (Or.inl ⟨by rfl, ?_⟩) hHeld ?_ ?_
              rotate_left
              · rintro w' ⟨s0, s1, s2, s3⟩
                go_simp
                with_reducible rfl
              rotate_left
              · simp only [Act.put, List.setIfInBounds_toArray, List.set_cons_zero, List.set_cons_succ, i64_w, i32_w]
                rfl
              refine take_ (i := 2) (N := some 18) (v := ?_) (a' := ?_) #[true, true, true, false, false, false, false, false] rfl rfl (take_ofW HT_.out HW_.out (by kernel_rfl)) (fun _ _ _ h => h) (Or.inl ⟨by rfl, ?_⟩) hHeld ?_ ?_
              rotate_left
              · rintro w' ⟨s0, s1, s2, s3⟩
                go_simp
                with_reducible rfl
              rotate_left
              · simp only [Act.put, List.setIfInBounds_toArray, List.set_cons_zero, List.set_cons_succ, i64_w, i32_w]
                rfl
              refine one_ (i := 3) (N := some 19) #[true, true, true, true, false, false, false, false] rfl rfl (one_of HT_.out (by kernel_rfl)) (by decide) (fun K hK => ?_)
              refine goes_ Try.func38 (by kernel_rfl) rfl #[.agg #[.int .i64 ((rd_T30 t196 x12_1).f0), .slice A199_1 ((rd_T30 t196 x12_1).f1).length c199_1]] (by rfl) rfl rfl (by (try simp only [List.map_toArray, List.map_cons, List.map_nil]); first | done | rfl | (simp only [List.length_drop, List.length_take]; rfl)) ?_
              with_reducible refine (ih k1 (by have := HK1.out; omega) ((rd_T30 t196 x12_1).f0) _ _ ((rd_T30 t196 x12_1).f1) t201 t202 _ ?side1 ?side2 A18.out).mono ?_
              (case side1 => repeat (first | exact ((Kd.V_reads' (by (with_reducible repeat (first | apply Kd.V_alloc | apply Kd.V_drewN | apply Kd.V_drew)); exact HL199_1.out)).2.2) | (with_reducible refine Kd.C_alloc ?_ _) | (with_reducible refine Kd.C_drewN ?_ _) | (with_reducible refine Kd.C_drew ?_)))
              (case side2 => exact HC199_1.out)
              rintro e w27 ⟨v203, rfl, ho0, hb⟩
              refine ⟨_, rfl, ?_⟩
              have n0_ := Aside0.mk (Kd.V_elder' (by (with_reducible repeat (first | apply Kd.V_alloc | apply Kd.V_drewN | apply Kd.V_drew)); exact HO_10.out) (Kd.R_base ho0) hb)
              have n1_ := Aside0.mk (Kd.R_elder' (by (with_reducible repeat (first | apply Kd.R_alloc | apply Kd.R_drewN | apply Kd.R_drew)); exact HO_196001.out) (Kd.R_base ho0) hb)
              have n2_ := Aside0.mk (Kd.V_elder' (by (with_reducible repeat (first | apply Kd.V_alloc | apply Kd.V_drewN | apply Kd.V_drew)); exact HL199_1.out) (Kd.R_base ho0) hb)
              have n3_ := Aside0.mk (Kd.R_lower (Kd.R_newB (Kd.R_newB (Kd.R_newB (Kd.R_newB (Kd.R_new' ho0 (Kd.R_lt (by (with_reducible repeat (first | apply Kd.R_alloc | apply Kd.R_drewN | apply Kd.R_drew)); exact HO_196001.out))) (g := gb193) (o := .cells #[.int .i64 a0_0, .slice A0_1 l0_1.length c0_1] 30 (0, 0)) (by (with_reducible repeat (first | refine blk_drewN ?_ _ | refine blk_drew ?_ | refine blk_alloc ?_ _)); exact BK193.out)) (g := gb194) (o := .cells #[.int .i64 0, .slice none 0 0] 30 (0, 0)) (by (with_reducible repeat (first | refine blk_drewN ?_ _ | refine blk_drew ?_ | refine blk_alloc ?_ _)); exact BK194.out)) (g := gb195) (o := .cells #[.int .i64 a0_0, u196001] 30 (0, 0)) (by (with_reducible repeat (first | refine blk_drewN ?_ _ | refine blk_drew ?_ | refine blk_alloc ?_ _)); exact BK195.out)) (g := gb200) (o := .cells #[.int .i64 ((rd_T30 t196 x12_1).f0), .slice A199_1 ((rd_T30 t196 x12_1).f1).length c199_1] 30 (0, 0)) (by (with_reducible repeat (first | refine blk_drewN ?_ _ | refine blk_drew ?_ | refine blk_alloc ?_ _)); exact BK200.out)) (below_size (by repeat (first | (with_reducible first | exact HB.out | apply below_alloc | apply pw_below_drewN | apply below_drew1 | refine below_set ?_ GE193.out | refine below_set ?_ GE194.out | refine below_set ?_ GE195.out | refine below_set ?_ GE200.out) | exact HB.out))))
              have n4_ := Aside0.mk (blk_below (g := gb193) (o := .cells #[.int .i64 a0_0, .slice A0_1 l0_1.length c0_1] 30 (0, 0)) (by (with_reducible repeat (first | refine blk_drewN ?_ _ | refine blk_drew ?_ | refine blk_alloc ?_ _)); exact BK193.out) hb)
              have n5_ := Aside0.mk (blk_below (g := gb194) (o := .cells #[.int .i64 0, .slice none 0 0] 30 (0, 0)) (by (with_reducible repeat (first | refine blk_drewN ?_ _ | refine blk_drew ?_ | refine blk_alloc ?_ _)); exact BK194.out) hb)
              have n6_ := Aside0.mk (blk_below (g := gb195) (o := .cells #[.int .i64 a0_0, u196001] 30 (0, 0)) (by (with_reducible repeat (first | refine blk_drewN ?_ _ | refine blk_drew ?_ | refine blk_alloc ?_ _)); exact BK195.out) hb)
              have n7_ := Aside0.mk (blk_below (g := gb200) (o := .cells #[.int .i64 ((rd_T30 t196 x12_1).f0), .slice A199_1 ((rd_T30 t196 x12_1).f1).length c199_1] 30 (0, 0)) (by (with_reducible repeat (first | refine blk_drewN ?_ _ | refine blk_drew ?_ | refine blk_alloc ?_ _)); exact BK200.out) hb)
              have n8_ := Aside0.mk (below_step (by repeat (first | (with_reducible first | exact HB.out | apply below_alloc | apply pw_below_drewN | apply below_drew1 | refine below_set ?_ GE193.out | refine below_set ?_ GE194.out | refine below_set ?_ GE195.out | refine below_set ?_ GE200.out) | exact HB.out)) hb)
              clear HO_10
              clear HO_196001
              clear HL199_1
              clear BK193
              clear BK194
              clear BK195
              clear BK200
              clear HB
              have HO_10 := n0_
              have HO_196001 := n1_
              have HL199_1 := n2_
              have HO204 := n3_
              have BK193 := n4_
              have BK194 := n5_
              have BK195 := n6_
              have BK200 := n7_
              have HB := n8_
              clear n0_ n1_ n2_ n3_ n4_ n5_ n6_ n7_ n8_
              (try clear hb)
              (try clear hb2)
              (try clear hk)
              (try clear hi)
              (try clear ho0)
              obtain ⟨Ao29, co29, eo29⟩ := Kd.R_slice HO204.out
              (first | subst eo29 | (injection eo29 with f1_ f2_ f3_; have f4_ := f1_.symm; have f5_ := f3_.symm; clear f1_ f2_ f3_; subst f4_; subst f5_))
              refine hK.out _ _ ⟨(blk_cell BK195.out 0).trans rfl, (blk_cell BK195.out 1).trans rfl, (blk_cell BK200.out 0).trans rfl, (blk_cell BK200.out 1).trans rfl⟩ (fun hHeld => ?_)
              clear hK K
              refine norm_ (a' := ?_) ?_ ?_
              rotate_left
              · show Act.put _ (some 19) _ = _
                simp only [Act.put, List.setIfInBounds_toArray, List.set_cons_zero, List.set_cons_succ, i64_w, i32_w]
                rfl
              refine one_ (i := 4) (N := some 20) #[true, true, true, true, true, false, false, false] rfl rfl (one_of HT_.out (by kernel_rfl)) (by decide) (fun K hK => ?_)
              refine value_ (w1 := ?_) (v := ?_) (by rfl) rfl ?_ ?_
              rotate_left 2
              · go_simp
                constructor
                · rfl
                · rfl
              refine hK.out _ _ ⟨(blk_cell (blk_alloc BK195.out _) 0).trans rfl, (blk_cell (blk_alloc BK195.out _) 1).trans rfl, (blk_cell (blk_alloc BK200.out _) 0).trans rfl, (blk_cell (blk_alloc BK200.out _) 1).trans rfl⟩ (fun hHeld => ?_)
              clear hK K
              refine norm_ (a' := ?_) ?_ ?_
              rotate_left
              · show Act.put _ (some 20) _ = _
                simp only [Act.put, List.setIfInBounds_toArray, List.set_cons_zero, List.set_cons_succ, i64_w, i32_w]
                rfl
              refine one_ (i := 5) (N := some 21) #[true, true, true, true, true, true, false, false] rfl rfl (one_of HT_.out (by kernel_rfl)) (by decide) (fun K hK => ?_)
              refine Kd.R_append_step k30 (w0 := w) w.heap.size (by rfl) (.tmp 17) (.tmp 20) 28 30 (.agg #[(.int .i64 0), (.slice none 0 0)]) 32 rfl Try.underlying28 info30 rfl (by decide) (by omega) u196001 x196001_1 (⟨t201, t202⟩ : S30) [.int .i64 t201, .slice Ao29 t202.length co29] (fun k_ => k_ ≠ gb193 ∧ k_ ≠ gb194 ∧ k_ ≠ gb195 ∧ k_ ≠ gb200) (fun k_ => ((fun k_ => k_ ≠ gb193 ∧ k_ ≠ gb194 ∧ k_ ≠ gb195 ∧ k_ ≠ gb200)) k_ ∧ some k_ ≠ (u196001 : Value).ownBlock) rfl rfl ?aP (fun _ hk => hk) ?aF ?aO ?aB ?aS ?aL ?_
              (case aP => exact k30_mkM _ _ _ (⟨t201, t202⟩ : S30) (Kd.R_mono (HO204.out) (fun k_ hk => ⟨⟨hk.1.1.1.2, ⟨hk.1.1.2, ⟨hk.1.2, hk.2⟩⟩⟩, hk.1.1.1.1.2⟩)))
              (case aB => exact (by repeat (first | (with_reducible first | exact HB.out | apply below_alloc | apply pw_below_drewN | apply below_drew1 | refine below_set ?_ GE193.out | refine below_set ?_ GE194.out | refine below_set ?_ GE195.out | refine below_set ?_ GE200.out) | exact HB.out)))
              (case aF => exact (fun k_ hk => ⟨Kd.freshB (g := gb193) (o := .cells #[.int .i64 a0_0, .slice A0_1 l0_1.length c0_1] 30 (0, 0)) (by (with_reducible repeat (first | refine blk_drewN ?_ _ | refine blk_drew ?_ | refine blk_alloc ?_ _)); exact BK193.out) k_ hk, Kd.freshB (g := gb194) (o := .cells #[.int .i64 0, .slice none 0 0] 30 (0, 0)) (by (with_reducible repeat (first | refine blk_drewN ?_ _ | refine blk_drew ?_ | refine blk_alloc ?_ _)); exact BK194.out) k_ hk, Kd.freshB (g := gb195) (o := .cells #[.int .i64 a0_0, u196001] 30 (0, 0)) (by (with_reducible repeat (first | refine blk_drewN ?_ _ | refine blk_drew ?_ | refine blk_alloc ?_ _)); exact BK195.out) k_ hk, Kd.freshB (g := gb200) (o := .cells #[.int .i64 ((rd_T30 t196 x12_1).f0), .slice A199_1 ((rd_T30 t196 x12_1).f1).length c199_1] 30 (0, 0)) (by (with_reducible repeat (first | refine blk_drewN ?_ _ | refine blk_drew ?_ | refine blk_alloc ?_ _)); exact BK200.out) k_ hk⟩))
              (case aO => exact (by (with_reducible repeat (first | apply Kd.R_alloc | apply Kd.R_drewN | apply Kd.R_drew)); exact Kd.R_mono HO_196001.out (fun _ hk => ⟨hk.1.1, ⟨hk.1.2.1, ⟨hk.1.2.2.1, hk.1.2.2.2⟩⟩⟩)))
              (case aS => exact (below_size (by repeat (first | (with_reducible first | exact HB.out | apply below_alloc | apply pw_below_drewN | apply below_drew1 | refine below_set ?_ GE193.out | refine below_set ?_ GE194.out | refine below_set ?_ GE195.out | refine below_set ?_ GE200.out) | exact HB.out))))
              (case aL => have := LMc19.out; omega)
              intro v206 w28 ho hb hg hat
              rw [← Ny205.out] at ho
              have n0_ := Aside0.mk (Kd.V_afterv (ok := (fun k_ => some k_ ≠ (.slice Ao29 t202.length co29 : Value).ownBlock ∧ k_ ≠ gb193 ∧ k_ ≠ gb194 ∧ k_ ≠ gb195 ∧ k_ ≠ gb200)) (by (with_reducible repeat (first | apply Kd.V_alloc | apply Kd.V_drewN | apply Kd.V_drew)); exact Kd.V_mono HO_10.out (fun _ hk => ⟨⟨hk.2, ⟨hk.1.2.1, ⟨hk.1.2.2.1, ⟨hk.1.2.2.2.1, hk.1.2.2.2.2⟩⟩⟩⟩, hk.1.1⟩)) hg hat)
              have n1_ := Aside0.mk (blk_grown (g := gb193) (o := .cells #[.int .i64 a0_0, .slice A0_1 l0_1.length c0_1] 30 (0, 0)) (by (with_reducible repeat (first | refine blk_drewN ?_ _ | refine blk_drew ?_ | refine blk_alloc ?_ _)); exact BK193.out) hg (Kd.R_away HO_196001.out (fun _ hk => hk.1.1)))
              have n2_ := Aside0.mk (blk_grown (g := gb194) (o := .cells #[.int .i64 0, .slice none 0 0] 30 (0, 0)) (by (with_reducible repeat (first | refine blk_drewN ?_ _ | refine blk_drew ?_ | refine blk_alloc ?_ _)); exact BK194.out) hg (Kd.R_away HO_196001.out (fun _ hk => hk.1.2.1)))
              have n3_ := Aside0.mk (blk_grown (g := gb195) (o := .cells #[.int .i64 a0_0, u196001] 30 (0, 0)) (by (with_reducible repeat (first | refine blk_drewN ?_ _ | refine blk_drew ?_ | refine blk_alloc ?_ _)); exact BK195.out) hg (Kd.R_away HO_196001.out (fun _ hk => hk.1.2.2.1)))
              have n4_ := Aside0.mk (Kd.V_afterv (ok := (fun k_ => some k_ ≠ (.slice Ao29 t202.length co29 : Value).ownBlock ∧ k_ ≠ gb193 ∧ k_ ≠ gb194 ∧ k_ ≠ gb195 ∧ k_ ≠ gb200)) (by (with_reducible repeat (first | apply Kd.V_alloc | apply Kd.V_drewN | apply Kd.V_drew)); exact Kd.V_mono HL199_1.out (fun _ hk => ⟨⟨hk.2, ⟨hk.1.2.1, ⟨hk.1.2.2.1, ⟨hk.1.2.2.2.1, hk.1.2.2.2.2⟩⟩⟩⟩, hk.1.1⟩)) hg hat)
              have n5_ := Aside0.mk (blk_grown (g := gb200) (o := .cells #[.int .i64 ((rd_T30 t196 x12_1).f0), .slice A199_1 ((rd_T30 t196 x12_1).f1).length c199_1] 30 (0, 0)) (by (with_reducible repeat (first | refine blk_drewN ?_ _ | refine blk_drew ?_ | refine blk_alloc ?_ _)); exact BK200.out) hg (Kd.R_away HO_196001.out (fun _ hk => hk.1.2.2.2)))
              have n6_ := Aside0.mk (hb)
              have n7_ := Aside0.mk (ho)
              clear HO_10
              clear BK193
              clear BK194
              clear BK195
              clear HL199_1
              clear BK200
              clear HB
              clear HO_196001
              clear HO204
              have HO_10 := n0_
              have BK193 := n1_
              have BK194 := n2_
              have BK195 := n3_
              have HL199_1 := n4_
              have BK200 := n5_
              have HB := n6_
              have HO207 := n7_
              clear n0_ n1_ n2_ n3_ n4_ n5_ n6_ n7_
              clear ho hb hg hat
              obtain ⟨Ao30, co30, eo30⟩ := Kd.R_slice HO207.out
              (first | subst eo30 | (injection eo30 with f1_ f2_ f3_; have f4_ := f1_.symm; have f5_ := f3_.symm; clear f1_ f2_ f3_; subst f4_; subst f5_))
              refine hK.out _ _ ⟨(blk_cell BK195.out 0).trans rfl, (blk_cell BK195.out 1).trans rfl, (blk_cell BK200.out 0).trans rfl, (blk_cell BK200.out 1).trans rfl⟩ (fun hHeld => ?_)
              clear hK K
              refine norm_ (a' := ?_) ?_ ?_
              rotate_left
              · show Act.put _ (some 21) _ = _
                simp only [Act.put, List.setIfInBounds_toArray, List.set_cons_zero, List.set_cons_succ, i64_w, i32_w]
                rfl
              refine pure_ (i := 6) (N := some 22) (v := ?_) (a' := ?_) #[true, true, true, true, true, true, true, false] rfl rfl (any_of HT_.out (by kernel_rfl)) (fun _ _ _ h => h) (Or.inl ⟨by rfl, ?_⟩) ?_ ?_
              rotate_left
              · intro w'
                go_simp
                with_reducible rfl
              rotate_left
              · simp only [Act.put, List.setIfInBounds_toArray, List.set_cons_zero, List.set_cons_succ, i64_w, i32_w]
                rfl
              refine last_ (i := 7) (N := none) #[true, true, true, true, true, true, true, true] rfl rfl (one_of HT_.out (by kernel_rfl)) (by decide) (fun K hK => ?_)
              have hs31 : w28.cell? ⟨gb195, 1, none⟩ = some (u196001) := (blk_cell BK195.out 1).trans rfl
              have hfs31 := blk_frozen BK195.out 1
              have hns31_0 := NB193_195.out
              have hns31_1 := NB194_195.out
              have hns31_3 := NB200_195.out
              have hms31_0 := NB195_193.out
              have hms31_1 := NB195_194.out
              have hms31_3 := NB195_200.out
              refine skip_ (w1 := ?_) (by rfl) rfl ?_ ?_
              rotate_left
              · go_simp
                rfl
              refine hK.out _ _ ?_
              clear hK K
              refine done_ (done_of HT_.out (by kernel_rfl)) ?_
              try go_wp2
              go_roundg k1
              case measure => have := HK1.out; omega
              case rel => exact ⟨(wrap64 (x12_1 + 1)), (y205), (.slice Ao30 y205.length co30), (by first | rfl | (simp; done) | (simp [*]; done)), H', ⟨by have := HK1.out; omega⟩, ⟨by (with_reducible repeat (first | apply Kd.V_alloc | apply Kd.V_drewN | apply Kd.V_drew)); exact Kd.V_mono (Kd.V_far (p := ⟨gb195, 1, none⟩) (Kd.V_mono HO_10.out (fun k_ hk => (⟨hk, hk.1.2.2.2.1⟩ : _ ∧ k_ ≠ gb195))) (fun _ hk => hk.2) (.slice Ao30 y205.length co30)) (fun _ hk => ⟨hk.1.2, ⟨hk.1.1.2.1, ⟨hk.1.1.2.2.1, hk.1.1.2.2.2.1⟩⟩⟩)⟩, ⟨by (with_reducible repeat (first | apply Kd.R_alloc | apply Kd.R_drewN | apply Kd.R_drew)); exact Kd.R_mono (Kd.R_far (p := ⟨gb195, 1, none⟩) (Kd.R_mono HO207.out (fun k_ hk => (⟨hk, hk.2.2.1⟩ : _ ∧ k_ ≠ gb195))) (fun _ hk => hk.2) (.slice Ao30 y205.length co30)) (fun _ hk => ⟨hk.1.1, ⟨hk.1.2.1, hk.1.2.2.1⟩⟩)⟩, ⟨by (with_reducible repeat (first | refine blk_drewN ?_ _ | refine blk_drew ?_ | refine blk_alloc ?_ _)); refine blk_far ?_ NB193_195.out _; (with_reducible repeat (first | refine blk_drewN ?_ _ | refine blk_drew ?_ | refine blk_alloc ?_ _)); exact BK193.out⟩, ⟨by (with_reducible repeat (first | refine blk_drewN ?_ _ | refine blk_drew ?_ | refine blk_alloc ?_ _)); refine blk_far ?_ NB194_195.out _; (with_reducible repeat (first | refine blk_drewN ?_ _ | refine blk_drew ?_ | refine blk_alloc ?_ _)); exact BK194.out⟩, ⟨by (with_reducible repeat (first | refine blk_drewN ?_ _ | refine blk_drew ?_ | refine blk_alloc ?_ _)); refine blk_put (cs := #[.int .i64 a0_0, u196001]) ?_ 1 _ rfl; (with_reducible repeat (first | refine blk_drewN ?_ _ | refine blk_drew ?_ | refine blk_alloc ?_ _)); exact BK195.out⟩, ⟨by repeat (first | (with_reducible first | exact HB.out | apply below_alloc | apply pw_below_drewN | apply below_drew1 | refine below_set ?_ GE193.out | refine below_set ?_ GE194.out | refine below_set ?_ GE195.out | refine below_set ?_ GE200.out) | exact HB.out)⟩⟩
            · rw [if_neg c19] at H
              exact absurd H (by simp)
          · rw [if_neg c17] at H
            exact absurd H (by simp)
        · rw [if_neg c16] at H
          exact absurd H (by simp)
      · rw [if_neg c15] at H
        have c15b0 : decide (x12_1 < (t196.length : Int)) = false := decide_eq_false c15
        clear c15
        simp only [Option.some.injEq, Prod.mk.injEq] at H
        obtain ⟨rfl, rfl⟩ := H
        have hnb32 := NB195_193.out
        have hnc32 := NB193_195.out
        have hnb33 := NB195_194.out
        have hnc33 := NB194_195.out
        have hcz34_0 : wr.cell? ⟨gb195, 0, none⟩ = some (.int .i64 a0_0) := (blk_cell BK195.out 0).trans rfl
        have hcz34_1 : wr.cell? ⟨gb195, 1, none⟩ = some (u196001) := (blk_cell BK195.out 1).trans rfl
        have hfz34_0 := blk_frozen BK195.out 0
        have hfz34_1 := blk_frozen BK195.out 1
        have hnb35 := NB194_193.out
        have hnc35 := NB193_194.out
        have hcz36_0 : wr.cell? ⟨gb194, 0, none⟩ = some (.int .i64 0) := (blk_cell BK194.out 0).trans rfl
        have hcz36_1 : wr.cell? ⟨gb194, 1, none⟩ = some (.slice none 0 0) := (blk_cell BK194.out 1).trans rfl
        have hfz36_0 := blk_frozen BK194.out 0
        have hfz36_1 := blk_frozen BK194.out 1
        obtain ⟨Ao37, co37, eo37⟩ := Kd.R_slice HO_196001.out
        subst eo37
        go_wp2
        refine bodyPost_ret (results_cell_row rfl _ _ gb194 30 #[.int .i64 a0_0, .slice Ao37 x196001_1.length co37] (0, 0) _ rfl (by (with_reducible repeat (first | refine blk_drewN ?_ _ | refine blk_drew ?_ | refine blk_alloc ?_ _)); refine blk_put (cs := #[.int .i64 a0_0, .slice none 0 0]) ?_ 1 _ rfl; (with_reducible repeat (first | refine blk_drewN ?_ _ | refine blk_drew ?_ | refine blk_alloc ?_ _)); refine blk_put (cs := #[.int .i64 0, .slice none 0 0]) ?_ 0 _ rfl; (with_reducible repeat (first | refine blk_drewN ?_ _ | refine blk_drew ?_ | refine blk_alloc ?_ _)); exact BK194.out) Try.underlying30 rfl (by kernel_rfl)) rfl ?_
        exact ⟨_, by first | rfl | (simp [errW_none, errW_some] <;> rfl) | (simp [*, errW_none, errW_some] <;> rfl), by (with_reducible repeat (first | apply Kd.R_alloc | apply Kd.R_drewN | apply Kd.R_drew)); exact Kd.R_mono (Kd.R_far (p := ⟨gb194, 1, none⟩) (Kd.R_far (p := ⟨gb194, 0, none⟩) (Kd.R_mono HO_196001.out (fun k_ hk => (⟨hk, hk.2.1⟩ : _ ∧ k_ ≠ gb194))) (fun _ hk => hk.2) (.int .i64 a0_0)) (fun _ hk => hk.2) (.slice Ao37 x196001_1.length co37)) (fun _ hk => trivial), by repeat (first | (with_reducible first | exact HB.out | apply below_alloc | apply pw_below_drewN | apply below_drew1 | refine below_set ?_ GE193.out | refine below_set ?_ GE194.out | refine below_set ?_ GE195.out) | exact HB.out)⟩
end Go.Proofs.Ytpfddihcikiofaa.P
end

section
namespace Go.Proofs.Ytpfddihcikiofaa.P
open Go.RowKit Go.Proofs.YtpfddihcikiofaaW.PrintWords Go.Proofs.YtpfddihcikiofaaW.PrintLast Go.Proofs.YtpfddihcikiofaaW.PrintMore
set_option linter.unusedVariables false
set_option linter.unusedSimpArgs false
theorem T_cells {base : Nat} {ok : Nat → Prop} {W : World} {v : Value} {xs : List S30} (h : k30.R 30 W base ok v xs) (i : Nat) (hi : i < xs.length) :
    ∃ g cap cells d0 d1, v = .slice (some ⟨g, 0, none⟩) xs.length cap ∧ base ≤ g ∧ g < W.heap.size ∧ W.heap[g]? = some (.cells cells 30 (0, 0)) ∧ cells[i * 2]? = some d0 ∧ cells[i * 2 + 1]? = some d1 := by
  obtain ⟨g, cap, rfl, h1, h2, cells, h3⟩ := Kd.R_form h (by omega)
  obtain ⟨c, hcl, _, hcc, _⟩ := Kd.R_elem h z30 (i : Int) (by omega) (by omega)
  have hcl2 : c.length = 2 := hcl
  have e0 := hcc 0 _ (List.getElem?_eq_getElem (by omega))
  have e1 := hcc 1 _ (List.getElem?_eq_getElem (by omega))
  rw [Int.toNat_natCast, blk_cell h3] at e0 e1
  exact ⟨g, cap, cells, _, _, rfl, h1, h2, h3, e0, e1⟩
theorem below_set2 {N : Nat} {w W : World} {g i j : Nat} {u v : Value} (h : Below N w W) (hg : N ≤ g) : Below N w ((W.setCell ⟨g, i, none⟩ u).setCell ⟨g, j, none⟩ v) := (h.setCell hg _).setCell hg _
end Go.Proofs.Ytpfddihcikiofaa.P
end

section
namespace Go.Proofs.Ytpfddihcikiofaa.P
open Go.RowKit Go.Proofs.YtpfddihcikiofaaW.PrintWords Go.Proofs.YtpfddihcikiofaaW.PrintLast Go.Proofs.YtpfddihcikiofaaW.PrintMore
attribute [local go_sem] max2_int min2_int max_two min_two max_three min_three max_four min_four
set_option linter.unusedVariables false
set_option linter.unusedSimpArgs false
theorem variable_calls (v : Int) (w : World) : Calls Try.prog 83 #[.int .i64 v] w fun e w' => e = .returned (.agg #[.int .i64 (wrap64 (-1 - v)), .slice none 0 0]) ∧ Below w.heap.size w w' := by
  go_enter Try.func83, Try.ntmps83
  go_wp2
  refine bodyPost_ret (results_cell_row rfl _ _ w.heap.size 30 #[.int .i64 (wrap64 (-1 - v)), .slice none 0 0] (0, 0) _ rfl (heap_alloc_new w _) Try.underlying30 rfl (by kernel_rfl)) rfl ?_
  exact ⟨rfl, below_alloc (Below.refl _ _) _⟩
end Go.Proofs.Ytpfddihcikiofaa.P
end

section
namespace Go.Proofs.Ytpfddihcikiofaa.P
open Go.RowKit Go.Proofs.YtpfddihcikiofaaW.PrintWords Go.Proofs.YtpfddihcikiofaaW.PrintLast Go.Proofs.YtpfddihcikiofaaW.PrintMore
attribute [local go_sem] max2_int min2_int max_two min_two max_three min_three max_four min_four
set_option linter.unusedVariables false
set_option linter.unusedSimpArgs false
def substVar.f (v : Int) : Option (Int × List S30) := some (wrap64 (-1 - v), [])
theorem substVar.calls (v : Int) (r1 : Int) (r2 : List S30) (w : World) (h : substVar.f v = some (r1, r2)) : Calls Try.prog 83 #[.int .i64 v] w fun e w' => ∃ v1 : Value, e = .returned (.agg #[.int .i64 r1, v1]) ∧ Kd.R k30 30 w' w.heap.size (fun _ => True) v1 r2 ∧ Below w.heap.size w w' := by
  unfold substVar.f at h
  injection h with h
  injection h with h1 h2
  subst h1 h2
  exact (variable_calls v w).mono (fun e w' ⟨h1, h2⟩ => ⟨_, h1, Kd.R_nil _ _ _ _ _, h2⟩)
def subst_S_Apply_1.f (k : Nat) (a0 : Int) (l1 : List (S114)) : Option (Int × (List (S30))) := (subst_S_Get.f k l1 a0).bind fun bt122 => (if bt122.2.2 = true then ((term_Clone.f k bt122.1 bt122.2.1).bind fun bt128 => (some (bt128.1, bt128.2))) else ((substVar.f a0).bind fun bt132 => (some (bt132.1, bt132.2))))
set_option maxHeartbeats 8000000 in
set_option maxRecDepth 100000 in
theorem subst_S_Apply_1.calls (gq : Nat) (k : Nat) (a0 : Int) (A1 : Option Addr) (c1 : Nat) (l1 : List (S114)) (r1 : Int) (r2 : List (S30)) (w : World) (hr1 : Kd.C k114 w A1 l1.length l1) (hc1 : l1.length ≤ c1) (hq : w.heap[gq]? = some (.cells #[.slice A1 l1.length c1] 62 (0, 0))) (h : subst_S_Apply_1.f k a0 l1 = some (r1, r2)) :
    Calls Try.prog 84 #[.int .i64 a0, .pointer (some ⟨gq, 0, none⟩)] w fun e w' => ∃ v1_ : Value, e = .returned (.agg #[.int .i64 r1, v1_]) ∧ Kd.R k30 30 w' w.heap.size (fun _ => True) v1_ r2 ∧ Below w.heap.size w w' := by
  have hu30 := Try.underlying30
  have HR1 := Aside0.mk hr1
  have HC1 := Aside0.mk hc1
  clear hr1 hc1
  have HQ : Aside0 (∀ w1, Below w.heap.size w w1 → w1.heap[gq]? = some (.cells #[.slice A1 l1.length c1] 62 (0, 0))) := ⟨fun w1 hb => blk_below hq hb⟩
  clear hq
  have HB := Aside0.mk (Below.refl w.heap.size w)
  have H : ((subst_S_Get.f k l1 a0).bind fun bt122 => (if bt122.2.2 = true then ((term_Clone.f k bt122.1 bt122.2.1).bind fun bt128 => (some (bt128.1, bt128.2))) else ((substVar.f a0).bind fun bt132 => (some (bt132.1, bt132.2))))) = some (r1, r2) := h
  clear h
  replace H := Option.bind_eq_some_iff.mp H
  obtain ⟨⟨t122, t123, t126⟩, A30, H⟩ := H
  replace H : (if t126 = true then ((term_Clone.f k t122 t123).bind fun bt128 => (some (bt128.1, bt128.2))) else ((substVar.f a0).bind fun bt132 => (some (bt132.1, bt132.2)))) = some (r1, r2) := H
  have A3 := Aside0.mk A30
  clear A30
  by_cases c4 : t126 = true
  · subst c4
    have H1 : ((term_Clone.f k t122 t123).bind fun bt128 => (some (bt128.1, bt128.2))) = some (r1, r2) := by rw [if_pos rfl] at H; exact H
    clear H
    have H := H1
    clear H1
    replace H := Option.bind_eq_some_iff.mp H
    obtain ⟨⟨t128, t129⟩, A50, H⟩ := H
    replace H : (some (t128, t129)) = some (r1, r2) := H
    have A5 := Aside0.mk A50
    clear A50
    simp only [Option.some.injEq, Prod.mk.injEq] at H
    obtain ⟨rfl, rfl⟩ := H
    go_enter Try.func84, Try.ntmps84
    go_wp2_with (first | ((with_reducible refine gate_dst (N := 3) rfl ?_); refine box_event ?hg (N := 3) ?hd (cs := #[.int .i64 0, .slice none 0 0]) (t := 30) ?hr ?_; (case hd => rfl); (case hg => rfl); (case hr => first | (go_simp; done) | (go_simp; rfl)); intro gb121 hg w6 hbox hb; have n0_ := Aside0.mk (below_step (by repeat (first | (with_reducible first | exact HB.out | apply below_alloc | apply pw_below_drewN | apply below_drew1) | exact HB.out)) hb); have n1_ := Aside0.mk (hbox); have n2_ := Aside0.mk ((by rw [hg]; exact (below_size (by repeat (first | (with_reducible first | exact HB.out | apply below_alloc | apply pw_below_drewN | apply below_drew1) | exact HB.out))) : w.heap.size ≤ gb121)); have n3_ := Aside0.mk ((by rw [hg]; exact (below_size (by repeat (first | (with_reducible first | exact HB.out | apply below_alloc | apply pw_below_drewN | apply below_drew1) | exact HB.out))) : w.heap.size ≤ gb121)); clear HB; have HB := n0_; have BK121 := n1_; have GW121 := n2_; have GE121 := n3_; clear n0_ n1_ n2_ n3_; clear hb hbox hg; have hqc : w6.cell? ⟨gq, 0, none⟩ = some (.slice A1 l1.length c1) := (blk_cell (HQ.out _ HB.out) 0).trans rfl) | ((with_reducible refine gate_callee (f := 85) rfl ?_); refine goesL_ (some 9) rfl rfl Try.func85 (by kernel_rfl) rfl #[.slice A1 l1.length c1, .int .i64 a0] rfl (by (try simp only [List.map_toArray, List.map_cons, List.map_nil]); first | done | rfl | (simp only [List.length_drop, List.length_take]; rfl)) ?_; (with_reducible refine (subst_S_Get.calls k (fun k_ => k_ < w.heap.size) _ _ l1 a0 t122 t123 true _ ?side1 A3.out).mono ?_); (case side1 => exact Kd.V_mk HC1.out (Kd.F_below (Kd.C_F k114_heap HR1.out) (by repeat (first | (with_reducible first | exact HB.out | apply below_alloc | apply pw_below_drewN | apply below_drew1 | refine below_set ?_ GE121.out) | exact HB.out)))); rintro e w7 ⟨v124, rfl, ho0, hb⟩; refine ⟨_, rfl, ?_⟩; have n0_ := Aside0.mk (Kd.V_lower (Kd.V_mono (ok' := fun k_ => k_ ≠ gb121) ho0 (fun k_ hk_ => Or.elim hk_ (fun hs_ => fun e_ => Nat.not_le.2 hs_ (by rw [e_]; exact GW121.out)) (fun hn_ => (Kd.freshB (g := gb121) (o := .cells #[.int .i64 0, .slice none 0 0] 30 (0, 0)) (by (with_reducible repeat (first | refine blk_drewN ?_ _ | refine blk_drew ?_ | refine blk_alloc ?_ _)); exact BK121.out) k_ hn_)))) (below_size (by repeat (first | (with_reducible first | exact HB.out | apply below_alloc | apply pw_below_drewN | apply below_drew1 | refine below_set ?_ GE121.out) | exact HB.out)))); have n1_ := Aside0.mk (blk_below (g := gb121) (o := .cells #[.int .i64 0, .slice none 0 0] 30 (0, 0)) (by (with_reducible repeat (first | refine blk_drewN ?_ _ | refine blk_drew ?_ | refine blk_alloc ?_ _)); exact BK121.out) hb); have n2_ := Aside0.mk (below_step (by repeat (first | (with_reducible first | exact HB.out | apply below_alloc | apply pw_below_drewN | apply below_drew1 | refine below_set ?_ GE121.out) | exact HB.out)) hb); clear BK121; clear HB; have HO125 := n0_; have BK121 := n1_; have HB := n2_; clear n0_ n1_ n2_; (try clear hb); (try clear hb2); (try clear hk); (try clear hi); (try clear ho0)) | ((with_reducible refine gate_dst (N := 4) rfl ?_); refine box_event ?hg (N := 4) ?hd (cs := #[.int .i64 0, .slice none 0 0]) (t := 30) ?hr ?_; (case hd => rfl); (case hg => rfl); (case hr => first | (go_simp; done) | (go_simp; rfl)); intro gb127 hg w8 hbox hb; have n0_ := Aside0.mk (Kd.V_below (Kd.V_elderB (by (with_reducible repeat (first | apply Kd.V_alloc | apply Kd.V_drewN | apply Kd.V_drew)); exact HO125.out) gb127 (Nat.le_of_eq hg.symm)) hb); have n1_ := Aside0.mk (blk_below (g := gb121) (o := .cells #[.int .i64 0, .slice none 0 0] 30 (0, 0)) (by (with_reducible repeat (first | refine blk_drewN ?_ _ | refine blk_drew ?_ | refine blk_alloc ?_ _)); exact BK121.out) hb); have n2_ := Aside0.mk (below_step (by repeat (first | (with_reducible first | exact HB.out | apply below_alloc | apply pw_below_drewN | apply below_drew1 | refine below_set ?_ GE121.out) | exact HB.out)) hb); have n3_ := Aside0.mk (hbox); have n4_ := Aside0.mk ((by rw [hg]; exact (below_size (by repeat (first | (with_reducible first | exact HB.out | apply below_alloc | apply pw_below_drewN | apply below_drew1 | refine below_set ?_ GE121.out) | exact HB.out))) : w.heap.size ≤ gb127)); have n5_ := Aside0.mk ((by rw [hg]; exact (below_size (by repeat (first | (with_reducible first | exact HB.out | apply below_alloc | apply pw_below_drewN | apply below_drew1 | refine below_set ?_ GE121.out) | exact HB.out))) : w.heap.size ≤ gb127)); have n6_ := Aside0.mk ((by rw [hg]; exact Nat.ne_of_lt (blk_lt (g := gb121) (o := .cells #[.int .i64 0, .slice none 0 0] 30 (0, 0)) (by (with_reducible repeat (first | refine blk_drewN ?_ _ | refine blk_drew ?_ | refine blk_alloc ?_ _)); exact BK121.out)) : gb121 ≠ gb127)); have n7_ := Aside0.mk ((by rw [hg]; exact Nat.ne_of_gt (blk_lt (g := gb121) (o := .cells #[.int .i64 0, .slice none 0 0] 30 (0, 0)) (by (with_reducible repeat (first | refine blk_drewN ?_ _ | refine blk_drew ?_ | refine blk_alloc ?_ _)); exact BK121.out)) : gb127 ≠ gb121)); clear HO125; clear BK121; clear HB; have HO125 := n0_; have BK121 := n1_; have HB := n2_; have BK127 := n3_; have GW127 := n4_; have GE127 := n5_; have NB121_127 := n6_; have NB127_121 := n7_; clear n0_ n1_ n2_ n3_ n4_ n5_ n6_ n7_; clear hb hbox hg; have hnb9 := NB127_121.out; have hnc9 := NB121_127.out; have hcz10_0 : w8.cell? ⟨gb127, 0, none⟩ = some (.int .i64 0) := (blk_cell BK127.out 0).trans rfl; have hcz10_1 : w8.cell? ⟨gb127, 1, none⟩ = some (.slice none 0 0) := (blk_cell BK127.out 1).trans rfl; have hfz10_0 := blk_frozen BK127.out 0; have hfz10_1 := blk_frozen BK127.out 1; obtain ⟨Ao11, co11, eo11⟩ := Kd.V_slice HO125.out; subst eo11) | ((with_reducible refine gate_callee (f := 38) rfl ?_); refine goesL_ (some 14) rfl rfl Try.func38 (by kernel_rfl) rfl #[.agg #[.int .i64 t122, .slice Ao11 t123.length co11]] rfl (by (try simp only [List.map_toArray, List.map_cons, List.map_nil]); first | done | rfl | (simp only [List.length_drop, List.length_take]; rfl)) ?_; (with_reducible refine (term_Clone.calls k t122 _ _ t123 t128 t129 _ ?side1 ?side2 A5.out).mono ?_); (case side1 => refine (Kd.V_reads' (e := 30) (base := w.heap.size) (ok := fun k_ => (k_ ≠ gb121 ∧ k_ ≠ gb127)) (n := t123.length) (c := co11) ?_).2.2; exact (by (with_reducible repeat (first | apply Kd.V_alloc | apply Kd.V_drewN | apply Kd.V_drew)); exact (Kd.V_mono (Kd.V_far (p := ⟨gb127, 1, none⟩) (Kd.V_far (p := ⟨gb127, 0, none⟩) (Kd.V_mono HO125.out (fun k_ hk => (⟨hk, hk.2⟩ : _ ∧ k_ ≠ gb127))) (fun _ hk => hk.2) (.int .i64 t122)) (fun _ hk => hk.2) (.slice Ao11 t123.length co11)) (fun _ h_ => h_.1)))); (case side2 => exact (Kd.V_reads' HO125.out).2.1); rintro e w12 ⟨v130, rfl, ho0, hb⟩; refine ⟨_, rfl, ?_⟩; have n0_ := Aside0.mk (Kd.V_elder' (by (with_reducible repeat (first | apply Kd.V_alloc | apply Kd.V_drewN | apply Kd.V_drew)); exact (Kd.V_mono (Kd.V_far (p := ⟨gb127, 1, none⟩) (Kd.V_far (p := ⟨gb127, 0, none⟩) (Kd.V_mono HO125.out (fun k_ hk => (⟨hk, hk.2⟩ : _ ∧ k_ ≠ gb127))) (fun _ hk => hk.2) (.int .i64 t122)) (fun _ hk => hk.2) (.slice Ao11 t123.length co11)) (fun _ h_ => h_.1))) (Kd.R_base ho0) hb); have n1_ := Aside0.mk (Kd.R_lower (Kd.R_newB (Kd.R_newB ho0 (g := gb121) (o := .cells #[.int .i64 0, .slice none 0 0] 30 (0, 0)) (by (with_reducible repeat (first | refine blk_drewN ?_ _ | refine blk_drew ?_ | refine blk_alloc ?_ _)); refine blk_far ?_ NB121_127.out _; (with_reducible repeat (first | refine blk_drewN ?_ _ | refine blk_drew ?_ | refine blk_alloc ?_ _)); refine blk_far ?_ NB121_127.out _; (with_reducible repeat (first | refine blk_drewN ?_ _ | refine blk_drew ?_ | refine blk_alloc ?_ _)); exact BK121.out)) (g := gb127) (o := .cells #[.int .i64 t122, .slice Ao11 t123.length co11] 30 (0, 0)) (by (with_reducible repeat (first | refine blk_drewN ?_ _ | refine blk_drew ?_ | refine blk_alloc ?_ _)); refine blk_put (cs := #[.int .i64 t122, .slice none 0 0]) ?_ 1 _ rfl; (with_reducible repeat (first | refine blk_drewN ?_ _ | refine blk_drew ?_ | refine blk_alloc ?_ _)); refine blk_put (cs := #[.int .i64 0, .slice none 0 0]) ?_ 0 _ rfl; (with_reducible repeat (first | refine blk_drewN ?_ _ | refine blk_drew ?_ | refine blk_alloc ?_ _)); exact BK127.out)) (below_size (by repeat (first | (with_reducible first | exact HB.out | apply below_alloc | apply pw_below_drewN | apply below_drew1 | refine below_set ?_ GE121.out | refine below_set ?_ GE127.out) | exact HB.out)))); have n2_ := Aside0.mk (blk_below (g := gb121) (o := .cells #[.int .i64 0, .slice none 0 0] 30 (0, 0)) (by (with_reducible repeat (first | refine blk_drewN ?_ _ | refine blk_drew ?_ | refine blk_alloc ?_ _)); refine blk_far ?_ NB121_127.out _; (with_reducible repeat (first | refine blk_drewN ?_ _ | refine blk_drew ?_ | refine blk_alloc ?_ _)); refine blk_far ?_ NB121_127.out _; (with_reducible repeat (first | refine blk_drewN ?_ _ | refine blk_drew ?_ | refine blk_alloc ?_ _)); exact BK121.out) hb); have n3_ := Aside0.mk (blk_below (g := gb127) (o := .cells #[.int .i64 t122, .slice Ao11 t123.length co11] 30 (0, 0)) (by (with_reducible repeat (first | refine blk_drewN ?_ _ | refine blk_drew ?_ | refine blk_alloc ?_ _)); refine blk_put (cs := #[.int .i64 t122, .slice none 0 0]) ?_ 1 _ rfl; (with_reducible repeat (first | refine blk_drewN ?_ _ | refine blk_drew ?_ | refine blk_alloc ?_ _)); refine blk_put (cs := #[.int .i64 0, .slice none 0 0]) ?_ 0 _ rfl; (with_reducible repeat (first | refine blk_drewN ?_ _ | refine blk_drew ?_ | refine blk_alloc ?_ _)); exact BK127.out) hb); have n4_ := Aside0.mk (below_step (by repeat (first | (with_reducible first | exact HB.out | apply below_alloc | apply pw_below_drewN | apply below_drew1 | refine below_set ?_ GE121.out | refine below_set ?_ GE127.out) | exact HB.out)) hb); clear HO125; clear BK121; clear BK127; clear HB; have HO125 := n0_; have HO131 := n1_; have BK121 := n2_; have BK127 := n3_; have HB := n4_; clear n0_ n1_ n2_ n3_ n4_; (try clear hb); (try clear hb2); (try clear hk); (try clear hi); (try clear ho0); have hcz13_0 : w12.cell? ⟨gb121, 0, none⟩ = some (.int .i64 0) := (blk_cell BK121.out 0).trans rfl; have hcz13_1 : w12.cell? ⟨gb121, 1, none⟩ = some (.slice none 0 0) := (blk_cell BK121.out 1).trans rfl; have hfz13_0 := blk_frozen BK121.out 0; have hfz13_1 := blk_frozen BK121.out 1; obtain ⟨Ao14, co14, eo14⟩ := Kd.R_slice HO131.out; subst eo14))
    refine bodyPost_ret (results_cell_row rfl _ _ gb121 30 #[.int .i64 t128, .slice Ao14 t129.length co14] (0, 0) _ rfl (by (with_reducible repeat (first | refine blk_drewN ?_ _ | refine blk_drew ?_ | refine blk_alloc ?_ _)); refine blk_put (cs := #[.int .i64 t128, .slice none 0 0]) ?_ 1 _ rfl; (with_reducible repeat (first | refine blk_drewN ?_ _ | refine blk_drew ?_ | refine blk_alloc ?_ _)); refine blk_put (cs := #[.int .i64 0, .slice none 0 0]) ?_ 0 _ rfl; (with_reducible repeat (first | refine blk_drewN ?_ _ | refine blk_drew ?_ | refine blk_alloc ?_ _)); exact BK121.out) Try.underlying30 rfl (by kernel_rfl)) rfl ?_
    exact ⟨_, by first | rfl | (simp [errW_none, errW_some] <;> rfl) | (simp [*, errW_none, errW_some] <;> rfl), by (with_reducible repeat (first | apply Kd.R_alloc | apply Kd.R_drewN | apply Kd.R_drew)); exact Kd.R_mono (Kd.R_far (p := ⟨gb121, 1, none⟩) (Kd.R_far (p := ⟨gb121, 0, none⟩) (Kd.R_mono HO131.out (fun k_ hk => (⟨hk, hk.1.2⟩ : _ ∧ k_ ≠ gb121))) (fun _ hk => hk.2) (.int .i64 t128)) (fun _ hk => hk.2) (.slice Ao14 t129.length co14)) (fun _ hk => trivial), by repeat (first | (with_reducible first | exact HB.out | apply below_alloc | apply pw_below_drewN | apply below_drew1 | refine below_set ?_ GE121.out | refine below_set ?_ GE127.out) | exact HB.out)⟩
  · replace c4 := Bool.eq_false_iff.mpr c4
    subst c4
    have H1 : ((substVar.f a0).bind fun bt132 => (some (bt132.1, bt132.2))) = some (r1, r2) := by rw [if_neg (show ¬ (false = true) by decide)] at H; exact H
    clear H
    have H := H1
    clear H1
    replace H := Option.bind_eq_some_iff.mp H
    obtain ⟨⟨t132, t133⟩, A150, H⟩ := H
    replace H : (some (t132, t133)) = some (r1, r2) := H
    have A15 := Aside0.mk A150
    clear A150
    simp only [Option.some.injEq, Prod.mk.injEq] at H
    obtain ⟨rfl, rfl⟩ := H
    go_enter Try.func84, Try.ntmps84
    go_wp2_with (first | ((with_reducible refine gate_dst (N := 3) rfl ?_); refine box_event ?hg (N := 3) ?hd (cs := #[.int .i64 0, .slice none 0 0]) (t := 30) ?hr ?_; (case hd => rfl); (case hg => rfl); (case hr => first | (go_simp; done) | (go_simp; rfl)); intro gb121 hg w16 hbox hb; have n0_ := Aside0.mk (below_step (by repeat (first | (with_reducible first | exact HB.out | apply below_alloc | apply pw_below_drewN | apply below_drew1) | exact HB.out)) hb); have n1_ := Aside0.mk (hbox); have n2_ := Aside0.mk ((by rw [hg]; exact (below_size (by repeat (first | (with_reducible first | exact HB.out | apply below_alloc | apply pw_below_drewN | apply below_drew1) | exact HB.out))) : w.heap.size ≤ gb121)); have n3_ := Aside0.mk ((by rw [hg]; exact (below_size (by repeat (first | (with_reducible first | exact HB.out | apply below_alloc | apply pw_below_drewN | apply below_drew1) | exact HB.out))) : w.heap.size ≤ gb121)); clear HB; have HB := n0_; have BK121 := n1_; have GW121 := n2_; have GE121 := n3_; clear n0_ n1_ n2_ n3_; clear hb hbox hg; have hqc : w16.cell? ⟨gq, 0, none⟩ = some (.slice A1 l1.length c1) := (blk_cell (HQ.out _ HB.out) 0).trans rfl) | ((with_reducible refine gate_callee (f := 85) rfl ?_); refine goesL_ (some 9) rfl rfl Try.func85 (by kernel_rfl) rfl #[.slice A1 l1.length c1, .int .i64 a0] rfl (by (try simp only [List.map_toArray, List.map_cons, List.map_nil]); first | done | rfl | (simp only [List.length_drop, List.length_take]; rfl)) ?_; (with_reducible refine (subst_S_Get.calls k (fun k_ => k_ < w.heap.size) _ _ l1 a0 t122 t123 false _ ?side1 A3.out).mono ?_); (case side1 => exact Kd.V_mk HC1.out (Kd.F_below (Kd.C_F k114_heap HR1.out) (by repeat (first | (with_reducible first | exact HB.out | apply below_alloc | apply pw_below_drewN | apply below_drew1 | refine below_set ?_ GE121.out) | exact HB.out)))); rintro e w17 ⟨v124, rfl, ho0, hb⟩; refine ⟨_, rfl, ?_⟩; have n0_ := Aside0.mk (Kd.V_lower (Kd.V_mono (ok' := fun k_ => k_ ≠ gb121) ho0 (fun k_ hk_ => Or.elim hk_ (fun hs_ => fun e_ => Nat.not_le.2 hs_ (by rw [e_]; exact GW121.out)) (fun hn_ => (Kd.freshB (g := gb121) (o := .cells #[.int .i64 0, .slice none 0 0] 30 (0, 0)) (by (with_reducible repeat (first | refine blk_drewN ?_ _ | refine blk_drew ?_ | refine blk_alloc ?_ _)); exact BK121.out) k_ hn_)))) (below_size (by repeat (first | (with_reducible first | exact HB.out | apply below_alloc | apply pw_below_drewN | apply below_drew1 | refine below_set ?_ GE121.out) | exact HB.out)))); have n1_ := Aside0.mk (blk_below (g := gb121) (o := .cells #[.int .i64 0, .slice none 0 0] 30 (0, 0)) (by (with_reducible repeat (first | refine blk_drewN ?_ _ | refine blk_drew ?_ | refine blk_alloc ?_ _)); exact BK121.out) hb); have n2_ := Aside0.mk (below_step (by repeat (first | (with_reducible first | exact HB.out | apply below_alloc | apply pw_below_drewN | apply below_drew1 | refine below_set ?_ GE121.out) | exact HB.out)) hb); clear BK121; clear HB; have HO125 := n0_; have BK121 := n1_; have HB := n2_; clear n0_ n1_ n2_; (try clear hb); (try clear hb2); (try clear hk); (try clear hi); (try clear ho0)) | ((with_reducible refine gate_dst (N := 4) rfl ?_); refine box_event ?hg (N := 4) ?hd (cs := #[.int .i64 0, .slice none 0 0]) (t := 30) ?hr ?_; (case hd => rfl); (case hg => rfl); (case hr => first | (go_simp; done) | (go_simp; rfl)); intro gb127 hg w18 hbox hb; have n0_ := Aside0.mk (Kd.V_below (Kd.V_elderB (by (with_reducible repeat (first | apply Kd.V_alloc | apply Kd.V_drewN | apply Kd.V_drew)); exact HO125.out) gb127 (Nat.le_of_eq hg.symm)) hb); have n1_ := Aside0.mk (blk_below (g := gb121) (o := .cells #[.int .i64 0, .slice none 0 0] 30 (0, 0)) (by (with_reducible repeat (first | refine blk_drewN ?_ _ | refine blk_drew ?_ | refine blk_alloc ?_ _)); exact BK121.out) hb); have n2_ := Aside0.mk (below_step (by repeat (first | (with_reducible first | exact HB.out | apply below_alloc | apply pw_below_drewN | apply below_drew1 | refine below_set ?_ GE121.out) | exact HB.out)) hb); have n3_ := Aside0.mk (hbox); have n4_ := Aside0.mk ((by rw [hg]; exact (below_size (by repeat (first | (with_reducible first | exact HB.out | apply below_alloc | apply pw_below_drewN | apply below_drew1 | refine below_set ?_ GE121.out) | exact HB.out))) : w.heap.size ≤ gb127)); have n5_ := Aside0.mk ((by rw [hg]; exact (below_size (by repeat (first | (with_reducible first | exact HB.out | apply below_alloc | apply pw_below_drewN | apply below_drew1 | refine below_set ?_ GE121.out) | exact HB.out))) : w.heap.size ≤ gb127)); have n6_ := Aside0.mk ((by rw [hg]; exact Nat.ne_of_lt (blk_lt (g := gb121) (o := .cells #[.int .i64 0, .slice none 0 0] 30 (0, 0)) (by (with_reducible repeat (first | refine blk_drewN ?_ _ | refine blk_drew ?_ | refine blk_alloc ?_ _)); exact BK121.out)) : gb121 ≠ gb127)); have n7_ := Aside0.mk ((by rw [hg]; exact Nat.ne_of_gt (blk_lt (g := gb121) (o := .cells #[.int .i64 0, .slice none 0 0] 30 (0, 0)) (by (with_reducible repeat (first | refine blk_drewN ?_ _ | refine blk_drew ?_ | refine blk_alloc ?_ _)); exact BK121.out)) : gb127 ≠ gb121)); clear HO125; clear BK121; clear HB; have HO125 := n0_; have BK121 := n1_; have HB := n2_; have BK127 := n3_; have GW127 := n4_; have GE127 := n5_; have NB121_127 := n6_; have NB127_121 := n7_; clear n0_ n1_ n2_ n3_ n4_ n5_ n6_ n7_; clear hb hbox hg; have hnb19 := NB127_121.out; have hnc19 := NB121_127.out; have hcz20_0 : w18.cell? ⟨gb127, 0, none⟩ = some (.int .i64 0) := (blk_cell BK127.out 0).trans rfl; have hcz20_1 : w18.cell? ⟨gb127, 1, none⟩ = some (.slice none 0 0) := (blk_cell BK127.out 1).trans rfl; have hfz20_0 := blk_frozen BK127.out 0; have hfz20_1 := blk_frozen BK127.out 1; obtain ⟨Ao21, co21, eo21⟩ := Kd.V_slice HO125.out; subst eo21) | ((with_reducible refine gate_callee (f := 83) rfl ?_); refine goesL_ (some 16) rfl rfl Try.func83 (by kernel_rfl) rfl #[.int .i64 a0] rfl (by (try simp only [List.map_toArray, List.map_cons, List.map_nil]); first | done | rfl | (simp only [List.length_drop, List.length_take]; rfl)) ?_; (with_reducible refine (substVar.calls a0 t132 t133 _ A15.out).mono ?_); rintro e w22 ⟨v134, rfl, ho0, hb⟩; refine ⟨_, rfl, ?_⟩; have n0_ := Aside0.mk (Kd.V_elder' (by (with_reducible repeat (first | apply Kd.V_alloc | apply Kd.V_drewN | apply Kd.V_drew)); exact (Kd.V_mono (Kd.V_far (p := ⟨gb127, 1, none⟩) (Kd.V_far (p := ⟨gb127, 0, none⟩) (Kd.V_mono HO125.out (fun k_ hk => (⟨hk, hk.2⟩ : _ ∧ k_ ≠ gb127))) (fun _ hk => hk.2) (.int .i64 t122)) (fun _ hk => hk.2) (.slice Ao21 t123.length co21)) (fun _ h_ => h_.1))) (Kd.R_base ho0) hb); have n1_ := Aside0.mk (Kd.R_lower (Kd.R_newB (Kd.R_newB ho0 (g := gb121) (o := .cells #[.int .i64 0, .slice none 0 0] 30 (0, 0)) (by (with_reducible repeat (first | refine blk_drewN ?_ _ | refine blk_drew ?_ | refine blk_alloc ?_ _)); refine blk_far ?_ NB121_127.out _; (with_reducible repeat (first | refine blk_drewN ?_ _ | refine blk_drew ?_ | refine blk_alloc ?_ _)); refine blk_far ?_ NB121_127.out _; (with_reducible repeat (first | refine blk_drewN ?_ _ | refine blk_drew ?_ | refine blk_alloc ?_ _)); exact BK121.out)) (g := gb127) (o := .cells #[.int .i64 t122, .slice Ao21 t123.length co21] 30 (0, 0)) (by (with_reducible repeat (first | refine blk_drewN ?_ _ | refine blk_drew ?_ | refine blk_alloc ?_ _)); refine blk_put (cs := #[.int .i64 t122, .slice none 0 0]) ?_ 1 _ rfl; (with_reducible repeat (first | refine blk_drewN ?_ _ | refine blk_drew ?_ | refine blk_alloc ?_ _)); refine blk_put (cs := #[.int .i64 0, .slice none 0 0]) ?_ 0 _ rfl; (with_reducible repeat (first | refine blk_drewN ?_ _ | refine blk_drew ?_ | refine blk_alloc ?_ _)); exact BK127.out)) (below_size (by repeat (first | (with_reducible first | exact HB.out | apply below_alloc | apply pw_below_drewN | apply below_drew1 | refine below_set ?_ GE121.out | refine below_set ?_ GE127.out) | exact HB.out)))); have n2_ := Aside0.mk (blk_below (g := gb121) (o := .cells #[.int .i64 0, .slice none 0 0] 30 (0, 0)) (by (with_reducible repeat (first | refine blk_drewN ?_ _ | refine blk_drew ?_ | refine blk_alloc ?_ _)); refine blk_far ?_ NB121_127.out _; (with_reducible repeat (first | refine blk_drewN ?_ _ | refine blk_drew ?_ | refine blk_alloc ?_ _)); refine blk_far ?_ NB121_127.out _; (with_reducible repeat (first | refine blk_drewN ?_ _ | refine blk_drew ?_ | refine blk_alloc ?_ _)); exact BK121.out) hb); have n3_ := Aside0.mk (blk_below (g := gb127) (o := .cells #[.int .i64 t122, .slice Ao21 t123.length co21] 30 (0, 0)) (by (with_reducible repeat (first | refine blk_drewN ?_ _ | refine blk_drew ?_ | refine blk_alloc ?_ _)); refine blk_put (cs := #[.int .i64 t122, .slice none 0 0]) ?_ 1 _ rfl; (with_reducible repeat (first | refine blk_drewN ?_ _ | refine blk_drew ?_ | refine blk_alloc ?_ _)); refine blk_put (cs := #[.int .i64 0, .slice none 0 0]) ?_ 0 _ rfl; (with_reducible repeat (first | refine blk_drewN ?_ _ | refine blk_drew ?_ | refine blk_alloc ?_ _)); exact BK127.out) hb); have n4_ := Aside0.mk (below_step (by repeat (first | (with_reducible first | exact HB.out | apply below_alloc | apply pw_below_drewN | apply below_drew1 | refine below_set ?_ GE121.out | refine below_set ?_ GE127.out) | exact HB.out)) hb); clear HO125; clear BK121; clear BK127; clear HB; have HO125 := n0_; have HO135 := n1_; have BK121 := n2_; have BK127 := n3_; have HB := n4_; clear n0_ n1_ n2_ n3_ n4_; (try clear hb); (try clear hb2); (try clear hk); (try clear hi); (try clear ho0); have hcz23_0 : w22.cell? ⟨gb121, 0, none⟩ = some (.int .i64 0) := (blk_cell BK121.out 0).trans rfl; have hcz23_1 : w22.cell? ⟨gb121, 1, none⟩ = some (.slice none 0 0) := (blk_cell BK121.out 1).trans rfl; have hfz23_0 := blk_frozen BK121.out 0; have hfz23_1 := blk_frozen BK121.out 1; obtain ⟨Ao24, co24, eo24⟩ := Kd.R_slice HO135.out; subst eo24))
    refine bodyPost_ret (results_cell_row rfl _ _ gb121 30 #[.int .i64 t132, .slice Ao24 t133.length co24] (0, 0) _ rfl (by (with_reducible repeat (first | refine blk_drewN ?_ _ | refine blk_drew ?_ | refine blk_alloc ?_ _)); refine blk_put (cs := #[.int .i64 t132, .slice none 0 0]) ?_ 1 _ rfl; (with_reducible repeat (first | refine blk_drewN ?_ _ | refine blk_drew ?_ | refine blk_alloc ?_ _)); refine blk_put (cs := #[.int .i64 0, .slice none 0 0]) ?_ 0 _ rfl; (with_reducible repeat (first | refine blk_drewN ?_ _ | refine blk_drew ?_ | refine blk_alloc ?_ _)); exact BK121.out) Try.underlying30 rfl (by kernel_rfl)) rfl ?_
    exact ⟨_, by first | rfl | (simp [errW_none, errW_some] <;> rfl) | (simp [*, errW_none, errW_some] <;> rfl), by (with_reducible repeat (first | apply Kd.R_alloc | apply Kd.R_drewN | apply Kd.R_drew)); exact Kd.R_mono (Kd.R_far (p := ⟨gb121, 1, none⟩) (Kd.R_far (p := ⟨gb121, 0, none⟩) (Kd.R_mono HO135.out (fun k_ hk => (⟨hk, hk.1.2⟩ : _ ∧ k_ ≠ gb121))) (fun _ hk => hk.2) (.int .i64 t132)) (fun _ hk => hk.2) (.slice Ao24 t133.length co24)) (fun _ hk => trivial), by repeat (first | (with_reducible first | exact HB.out | apply below_alloc | apply pw_below_drewN | apply below_drew1 | refine below_set ?_ GE121.out | refine below_set ?_ GE127.out) | exact HB.out)⟩
end Go.Proofs.Ytpfddihcikiofaa.P
end

section
namespace Go.Proofs.Ytpfddihcikiofaa.P
open Go.RowKit Go.Proofs.YtpfddihcikiofaaW.PrintWords Go.Proofs.YtpfddihcikiofaaW.PrintLast Go.Proofs.YtpfddihcikiofaaW.PrintMore
attribute [local go_sem] max2_int min2_int max_two min_two max_three min_three max_four min_four
set_option linter.unusedVariables false
set_option linter.unusedSimpArgs false
mutual
def subst_mappedA.l0 : Nat → List (S114) → List (S30) → Int → Int → Int → List (S30) → Option (Int × (List (S30)))
  | 0, _, _, _, _, _, _ => none
  | k + 1, x1, x20, x21, x22, x143000, x143001 => if x22 < x21 then (if 0 ≤ x22 then (if x22 < (x20.length : Int) then ((subst_mappedA.f k ((rd_T30 x20 x22).f0) ((rd_T30 x20 x22).f1) x1).bind fun bt145 => (if x143001.length < 4398046511104 then (subst_mappedA.l0 k x1 x20 x21 (wrap64 (x22 + 1)) x143000 (x143001 ++ [(⟨bt145.1, bt145.2⟩ : S30)])) else (none))) else (none)) else (none)) else (some (x143000, x143001))
def subst_mappedA.f : Nat → Int → List (S30) → List (S114) → Option (Int × (List (S30)))
  | 0, _, _, _ => none
  | k + 1, a0_0, l0_1, l1 => if a0_0 < 0 then ((subst_S_Apply_1.f k (wrap64 ((-1) - a0_0)) l1).bind fun bt138 => (some (bt138.1, bt138.2))) else (subst_mappedA.l0 k l1 l0_1 (l0_1.length : Int) 0 a0_0 ([] : List (S30)))
end
def subst_mappedA.T7 : Bool × List (List Nat × List Nat) := (true, [([], []), ([0], [0]), ([], []), ([], []), ([2, 3], [2, 3]), ([4], [4]), ([1, 5, 4], [1, 5]), ([0, 1, 2, 3, 4, 5, 6], []), ([7, 6, 6, 0, 1, 2, 3, 4, 5, 6], [6, 7])])
def subst_mappedA.B7 : List Nat := [0, 1, 0, 0, 12, 28, 63, 127, 255]
theorem subst_mappedA.tab7 : rtab .any (opsOf Try.f81 7) = subst_mappedA.T7 := by kernel_rfl
theorem subst_mappedA.bits7 : waitsOk subst_mappedA.T7.2 subst_mappedA.B7 = true := by kernel_rfl
set_option maxHeartbeats 8000000 in
set_option maxRecDepth 100000 in
theorem subst_mappedA.calls (gq : Nat) (k : Nat) : ∀ (a0_0 : Int) (A0_1 : Option Addr) (c0_1 : Nat) (l0_1 : List (S30)) (A1 : Option Addr) (c1 : Nat) (l1 : List (S114)) (r1 : Int) (r2 : List (S30)) (w : World) (hr0_1 : Kd.C k30 w A0_1 l0_1.length l0_1) (hc0_1 : l0_1.length ≤ c0_1) (hr1 : Kd.C k114 w A1 l1.length l1) (hc1 : l1.length ≤ c1) (hq : w.heap[gq]? = some (.cells #[.slice A1 l1.length c1] 62 (0, 0))) (h : subst_mappedA.f k a0_0 l0_1 l1 = some (r1, r2)),
    Calls Try.prog 81 #[.agg #[.int .i64 a0_0, .slice A0_1 l0_1.length c0_1], (.func (.func 84) #[] #[.pointer (some ⟨gq, 0, none⟩)])] w fun e w' => ∃ v1_ : Value, e = .returned (.agg #[.int .i64 r1, v1_]) ∧ Kd.R k30 30 w' w.heap.size (fun _ => True) v1_ r2 ∧ Below w.heap.size w w' := by
  induction k using Nat.strongRecOn with
  | _ k ih =>
  intro a0_0 A0_1 c0_1 l0_1 A1 c1 l1 r1 r2 w hr0_1 hc0_1 hr1 hc1 hq h
  have HQ : Aside0 (∀ w1, Below w.heap.size w w1 → w1.heap[gq]? = some (.cells #[.slice A1 l1.length c1] 62 (0, 0))) := ⟨fun w1 hb => blk_below hq hb⟩
  clear hq
  cases k with
  | zero => exact absurd h (by simp [subst_mappedA.f])
  | succ k =>
  simp only [subst_mappedA.f] at h
  have hu30 := Try.underlying30
  have HR0_1 := Aside0.mk hr0_1
  have HC0_1 := Aside0.mk hc0_1
  clear hr0_1 hc0_1
  have HR1 := Aside0.mk hr1
  have HC1 := Aside0.mk hc1
  clear hr1 hc1
  have HB := Aside0.mk (Below.refl w.heap.size w)
  have H : (if a0_0 < 0 then ((subst_S_Apply_1.f k (wrap64 ((-1) - a0_0)) l1).bind fun bt138 => (some (bt138.1, bt138.2))) else (subst_mappedA.l0 k l1 l0_1 (l0_1.length : Int) 0 a0_0 ([] : List (S30)))) = some (r1, r2) := h
  clear h
  by_cases c3 : a0_0 < 0
  · rw [if_pos c3] at H
    have c3b0 : decide (a0_0 < 0) = true := decide_eq_true c3
    clear c3
    replace H := Option.bind_eq_some_iff.mp H
    obtain ⟨⟨t138, t139⟩, A40, H⟩ := H
    replace H : (some (t138, t139)) = some (r1, r2) := H
    have A4 := Aside0.mk A40
    clear A40
    simp only [Option.some.injEq, Prod.mk.injEq] at H
    obtain ⟨rfl, rfl⟩ := H
    go_enter Try.func81, Try.ntmps81
    go_wp2_with (first | ((with_reducible refine gate_dst (N := 2) rfl ?_); refine box_event ?hg (N := 2) ?hd (cs := #[.int .i64 a0_0, .slice A0_1 l0_1.length c0_1]) (t := 30) ?hr ?_; (case hd => rfl); (case hg => rfl); (case hr => first | (go_simp; done) | (go_simp; rfl)); intro gb136 hg w5 hbox hb; have n0_ := Aside0.mk (below_step (by repeat (first | (with_reducible first | exact HB.out | apply below_alloc | apply pw_below_drewN | apply below_drew1) | exact HB.out)) hb); have n1_ := Aside0.mk (hbox); have n2_ := Aside0.mk ((by rw [hg]; exact (below_size (by repeat (first | (with_reducible first | exact HB.out | apply below_alloc | apply pw_below_drewN | apply below_drew1) | exact HB.out))) : w.heap.size ≤ gb136)); have n3_ := Aside0.mk ((by rw [hg]; exact (below_size (by repeat (first | (with_reducible first | exact HB.out | apply below_alloc | apply pw_below_drewN | apply below_drew1) | exact HB.out))) : w.heap.size ≤ gb136)); clear HB; have HB := n0_; have BK136 := n1_; have GW136 := n2_; have GE136 := n3_; clear n0_ n1_ n2_ n3_; clear hb hbox hg) | ((with_reducible refine gate_dst (N := 4) rfl ?_); refine box_event ?hg (N := 4) ?hd (cs := #[.int .i64 0, .slice none 0 0]) (t := 30) ?hr ?_; (case hd => rfl); (case hg => rfl); (case hr => first | (go_simp; done) | (go_simp; rfl)); intro gb137 hg w6 hbox hb; have n0_ := Aside0.mk (blk_below (g := gb136) (o := .cells #[.int .i64 a0_0, .slice A0_1 l0_1.length c0_1] 30 (0, 0)) (by (with_reducible repeat (first | refine blk_drewN ?_ _ | refine blk_drew ?_ | refine blk_alloc ?_ _)); exact BK136.out) hb); have n1_ := Aside0.mk (below_step (by repeat (first | (with_reducible first | exact HB.out | apply below_alloc | apply pw_below_drewN | apply below_drew1 | refine below_set ?_ GE136.out) | exact HB.out)) hb); have n2_ := Aside0.mk (hbox); have n3_ := Aside0.mk ((by rw [hg]; exact (below_size (by repeat (first | (with_reducible first | exact HB.out | apply below_alloc | apply pw_below_drewN | apply below_drew1 | refine below_set ?_ GE136.out) | exact HB.out))) : w.heap.size ≤ gb137)); have n4_ := Aside0.mk ((by rw [hg]; exact (below_size (by repeat (first | (with_reducible first | exact HB.out | apply below_alloc | apply pw_below_drewN | apply below_drew1 | refine below_set ?_ GE136.out) | exact HB.out))) : w.heap.size ≤ gb137)); have n5_ := Aside0.mk ((by rw [hg]; exact Nat.ne_of_lt (blk_lt (g := gb136) (o := .cells #[.int .i64 a0_0, .slice A0_1 l0_1.length c0_1] 30 (0, 0)) (by (with_reducible repeat (first | refine blk_drewN ?_ _ | refine blk_drew ?_ | refine blk_alloc ?_ _)); exact BK136.out)) : gb136 ≠ gb137)); have n6_ := Aside0.mk ((by rw [hg]; exact Nat.ne_of_gt (blk_lt (g := gb136) (o := .cells #[.int .i64 a0_0, .slice A0_1 l0_1.length c0_1] 30 (0, 0)) (by (with_reducible repeat (first | refine blk_drewN ?_ _ | refine blk_drew ?_ | refine blk_alloc ?_ _)); exact BK136.out)) : gb137 ≠ gb136)); clear BK136; clear HB; have BK136 := n0_; have HB := n1_; have BK137 := n2_; have GW137 := n3_; have GE137 := n4_; have NB136_137 := n5_; have NB137_136 := n6_; clear n0_ n1_ n2_ n3_ n4_ n5_ n6_; clear hb hbox hg; have hnb7 := NB136_137.out; have hnc7 := NB137_136.out; have hcz8_0 : w6.cell? ⟨gb136, 0, none⟩ = some (.int .i64 a0_0) := (blk_cell BK136.out 0).trans rfl; have hcz8_1 : w6.cell? ⟨gb136, 1, none⟩ = some (.slice A0_1 l0_1.length c0_1) := (blk_cell BK136.out 1).trans rfl; have hfz8_0 := blk_frozen BK136.out 0; have hfz8_1 := blk_frozen BK136.out 1) | (go_at_call 84; (refine (subst_S_Apply_1.calls gq k (wrap64 ((-1) - a0_0)) _ _ l1 t138 t139 _ ?side1 ?side2 (HQ.out _ (by repeat (first | (with_reducible first | exact HB.out | apply below_alloc | apply pw_below_drewN | apply below_drew1) | exact HB.out))) A4.out).mono ?_); (case side1 => repeat (first | exact (Kd.C_below HR1.out HB.out) | (with_reducible refine Kd.C_alloc ?_ _) | (with_reducible refine Kd.C_drewN ?_ _) | (with_reducible refine Kd.C_drew ?_))); (case side2 => exact HC1.out); rintro e w9 ⟨v140, rfl, ho0, hb⟩; have n0_ := Aside0.mk (Kd.R_lower (Kd.R_newB (Kd.R_newB ho0 (g := gb136) (o := .cells #[.int .i64 a0_0, .slice A0_1 l0_1.length c0_1] 30 (0, 0)) (by (with_reducible repeat (first | refine blk_drewN ?_ _ | refine blk_drew ?_ | refine blk_alloc ?_ _)); exact BK136.out)) (g := gb137) (o := .cells #[.int .i64 0, .slice none 0 0] 30 (0, 0)) (by (with_reducible repeat (first | refine blk_drewN ?_ _ | refine blk_drew ?_ | refine blk_alloc ?_ _)); exact BK137.out)) (below_size (by repeat (first | (with_reducible first | exact HB.out | apply below_alloc | apply pw_below_drewN | apply below_drew1 | refine below_set ?_ GE136.out | refine below_set ?_ GE137.out) | exact HB.out)))); have n1_ := Aside0.mk (blk_below (g := gb136) (o := .cells #[.int .i64 a0_0, .slice A0_1 l0_1.length c0_1] 30 (0, 0)) (by (with_reducible repeat (first | refine blk_drewN ?_ _ | refine blk_drew ?_ | refine blk_alloc ?_ _)); exact BK136.out) hb); have n2_ := Aside0.mk (blk_below (g := gb137) (o := .cells #[.int .i64 0, .slice none 0 0] 30 (0, 0)) (by (with_reducible repeat (first | refine blk_drewN ?_ _ | refine blk_drew ?_ | refine blk_alloc ?_ _)); exact BK137.out) hb); have n3_ := Aside0.mk (below_step (by repeat (first | (with_reducible first | exact HB.out | apply below_alloc | apply pw_below_drewN | apply below_drew1 | refine below_set ?_ GE136.out | refine below_set ?_ GE137.out) | exact HB.out)) hb); clear BK136; clear BK137; clear HB; have HO141 := n0_; have BK136 := n1_; have BK137 := n2_; have HB := n3_; clear n0_ n1_ n2_ n3_; (try clear hb); (try clear hb2); (try clear hk); (try clear hi); (try clear ho0); have hcz10_0 : w9.cell? ⟨gb137, 0, none⟩ = some (.int .i64 0) := (blk_cell BK137.out 0).trans rfl; have hcz10_1 : w9.cell? ⟨gb137, 1, none⟩ = some (.slice none 0 0) := (blk_cell BK137.out 1).trans rfl; have hfz10_0 := blk_frozen BK137.out 0; have hfz10_1 := blk_frozen BK137.out 1; obtain ⟨Ao11, co11, eo11⟩ := Kd.R_slice HO141.out; subst eo11))
    refine bodyPost_ret (results_cell_row rfl _ _ gb137 30 #[.int .i64 t138, .slice Ao11 t139.length co11] (0, 0) _ rfl (by (with_reducible repeat (first | refine blk_drewN ?_ _ | refine blk_drew ?_ | refine blk_alloc ?_ _)); refine blk_put (cs := #[.int .i64 t138, .slice none 0 0]) ?_ 1 _ rfl; (with_reducible repeat (first | refine blk_drewN ?_ _ | refine blk_drew ?_ | refine blk_alloc ?_ _)); refine blk_put (cs := #[.int .i64 0, .slice none 0 0]) ?_ 0 _ rfl; (with_reducible repeat (first | refine blk_drewN ?_ _ | refine blk_drew ?_ | refine blk_alloc ?_ _)); exact BK137.out) Try.underlying30 rfl (by kernel_rfl)) rfl ?_
    exact ⟨_, by first | rfl | (simp [errW_none, errW_some] <;> rfl) | (simp [*, errW_none, errW_some] <;> rfl), by (with_reducible repeat (first | apply Kd.R_alloc | apply Kd.R_drewN | apply Kd.R_drew)); exact Kd.R_mono (Kd.R_far (p := ⟨gb137, 1, none⟩) (Kd.R_far (p := ⟨gb137, 0, none⟩) (Kd.R_mono HO141.out (fun k_ hk => (⟨hk, hk.2⟩ : _ ∧ k_ ≠ gb137))) (fun _ hk => hk.2) (.int .i64 t138)) (fun _ hk => hk.2) (.slice Ao11 t139.length co11)) (fun _ hk => trivial), by repeat (first | (with_reducible first | exact HB.out | apply below_alloc | apply pw_below_drewN | apply below_drew1 | refine below_set ?_ GE136.out | refine below_set ?_ GE137.out) | exact HB.out)⟩
  · rw [if_neg c3] at H
    have c3b0 : decide (a0_0 < 0) = false := decide_eq_false c3
    clear c3
    have H' := Aside0.mk H
    clear H
    go_enter Try.func81, Try.ntmps81
    go_wp2_with (first | ((with_reducible refine gate_dst (N := 2) rfl ?_); refine box_event ?hg (N := 2) ?hd (cs := #[.int .i64 a0_0, .slice A0_1 l0_1.length c0_1]) (t := 30) ?hr ?_; (case hd => rfl); (case hg => rfl); (case hr => first | (go_simp; done) | (go_simp; rfl)); intro gb136 hg w12 hbox hb; have n0_ := Aside0.mk (below_step (by repeat (first | (with_reducible first | exact HB.out | apply below_alloc | apply pw_below_drewN | apply below_drew1) | exact HB.out)) hb); have n1_ := Aside0.mk (hbox); have n2_ := Aside0.mk ((by rw [hg]; exact (below_size (by repeat (first | (with_reducible first | exact HB.out | apply below_alloc | apply pw_below_drewN | apply below_drew1) | exact HB.out))) : w.heap.size ≤ gb136)); have n3_ := Aside0.mk ((by rw [hg]; exact (below_size (by repeat (first | (with_reducible first | exact HB.out | apply below_alloc | apply pw_below_drewN | apply below_drew1) | exact HB.out))) : w.heap.size ≤ gb136)); clear HB; have HB := n0_; have BK136 := n1_; have GW136 := n2_; have GE136 := n3_; clear n0_ n1_ n2_ n3_; clear hb hbox hg) | ((with_reducible refine gate_dst (N := 4) rfl ?_); refine box_event ?hg (N := 4) ?hd (cs := #[.int .i64 0, .slice none 0 0]) (t := 30) ?hr ?_; (case hd => rfl); (case hg => rfl); (case hr => first | (go_simp; done) | (go_simp; rfl)); intro gb137 hg w13 hbox hb; have n0_ := Aside0.mk (blk_below (g := gb136) (o := .cells #[.int .i64 a0_0, .slice A0_1 l0_1.length c0_1] 30 (0, 0)) (by (with_reducible repeat (first | refine blk_drewN ?_ _ | refine blk_drew ?_ | refine blk_alloc ?_ _)); exact BK136.out) hb); have n1_ := Aside0.mk (below_step (by repeat (first | (with_reducible first | exact HB.out | apply below_alloc | apply pw_below_drewN | apply below_drew1 | refine below_set ?_ GE136.out) | exact HB.out)) hb); have n2_ := Aside0.mk (hbox); have n3_ := Aside0.mk ((by rw [hg]; exact (below_size (by repeat (first | (with_reducible first | exact HB.out | apply below_alloc | apply pw_below_drewN | apply below_drew1 | refine below_set ?_ GE136.out) | exact HB.out))) : w.heap.size ≤ gb137)); have n4_ := Aside0.mk ((by rw [hg]; exact (below_size (by repeat (first | (with_reducible first | exact HB.out | apply below_alloc | apply pw_below_drewN | apply below_drew1 | refine below_set ?_ GE136.out) | exact HB.out))) : w.heap.size ≤ gb137)); have n5_ := Aside0.mk ((by rw [hg]; exact Nat.ne_of_lt (blk_lt (g := gb136) (o := .cells #[.int .i64 a0_0, .slice A0_1 l0_1.length c0_1] 30 (0, 0)) (by (with_reducible repeat (first | refine blk_drewN ?_ _ | refine blk_drew ?_ | refine blk_alloc ?_ _)); exact BK136.out)) : gb136 ≠ gb137)); have n6_ := Aside0.mk ((by rw [hg]; exact Nat.ne_of_gt (blk_lt (g := gb136) (o := .cells #[.int .i64 a0_0, .slice A0_1 l0_1.length c0_1] 30 (0, 0)) (by (with_reducible repeat (first | refine blk_drewN ?_ _ | refine blk_drew ?_ | refine blk_alloc ?_ _)); exact BK136.out)) : gb137 ≠ gb136)); clear BK136; clear HB; have BK136 := n0_; have HB := n1_; have BK137 := n2_; have GW137 := n3_; have GE137 := n4_; have NB136_137 := n5_; have NB137_136 := n6_; clear n0_ n1_ n2_ n3_ n4_ n5_ n6_; clear hb hbox hg; have hnb14 := NB136_137.out; have hnc14 := NB137_136.out; have hcz15_0 : w13.cell? ⟨gb136, 0, none⟩ = some (.int .i64 a0_0) := (blk_cell BK136.out 0).trans rfl; have hcz15_1 : w13.cell? ⟨gb136, 1, none⟩ = some (.slice A0_1 l0_1.length c0_1) := (blk_cell BK136.out 1).trans rfl; have hfz15_0 := blk_frozen BK136.out 0; have hfz15_1 := blk_frozen BK136.out 1) | ((with_reducible refine gate_dst (N := 5) rfl ?_); refine box_event ?hg (N := 5) ?hd (cs := #[.int .i64 0, .slice none 0 0]) (t := 30) ?hr ?_; (case hd => rfl); (case hg => rfl); (case hr => first | (go_simp; done) | (go_simp; rfl)); intro gb142 hg w16 hbox hb; have n0_ := Aside0.mk (blk_below (g := gb136) (o := .cells #[.int .i64 a0_0, .slice A0_1 l0_1.length c0_1] 30 (0, 0)) (by (with_reducible repeat (first | refine blk_drewN ?_ _ | refine blk_drew ?_ | refine blk_alloc ?_ _)); exact BK136.out) hb); have n1_ := Aside0.mk (blk_below (g := gb137) (o := .cells #[.int .i64 0, .slice none 0 0] 30 (0, 0)) (by (with_reducible repeat (first | refine blk_drewN ?_ _ | refine blk_drew ?_ | refine blk_alloc ?_ _)); exact BK137.out) hb); have n2_ := Aside0.mk (below_step (by repeat (first | (with_reducible first | exact HB.out | apply below_alloc | apply pw_below_drewN | apply below_drew1 | refine below_set ?_ GE136.out | refine below_set ?_ GE137.out) | exact HB.out)) hb); have n3_ := Aside0.mk (hbox); have n4_ := Aside0.mk ((by rw [hg]; exact (below_size (by repeat (first | (with_reducible first | exact HB.out | apply below_alloc | apply pw_below_drewN | apply below_drew1 | refine below_set ?_ GE136.out | refine below_set ?_ GE137.out) | exact HB.out))) : w.heap.size ≤ gb142)); have n5_ := Aside0.mk ((by rw [hg]; exact (below_size (by repeat (first | (with_reducible first | exact HB.out | apply below_alloc | apply pw_below_drewN | apply below_drew1 | refine below_set ?_ GE136.out | refine below_set ?_ GE137.out) | exact HB.out))) : w.heap.size ≤ gb142)); have n6_ := Aside0.mk ((by rw [hg]; exact Nat.ne_of_lt (blk_lt (g := gb136) (o := .cells #[.int .i64 a0_0, .slice A0_1 l0_1.length c0_1] 30 (0, 0)) (by (with_reducible repeat (first | refine blk_drewN ?_ _ | refine blk_drew ?_ | refine blk_alloc ?_ _)); exact BK136.out)) : gb136 ≠ gb142)); have n7_ := Aside0.mk ((by rw [hg]; exact Nat.ne_of_gt (blk_lt (g := gb136) (o := .cells #[.int .i64 a0_0, .slice A0_1 l0_1.length c0_1] 30 (0, 0)) (by (with_reducible repeat (first | refine blk_drewN ?_ _ | refine blk_drew ?_ | refine blk_alloc ?_ _)); exact BK136.out)) : gb142 ≠ gb136)); have n8_ := Aside0.mk ((by rw [hg]; exact Nat.ne_of_lt (blk_lt (g := gb137) (o := .cells #[.int .i64 0, .slice none 0 0] 30 (0, 0)) (by (with_reducible repeat (first | refine blk_drewN ?_ _ | refine blk_drew ?_ | refine blk_alloc ?_ _)); exact BK137.out)) : gb137 ≠ gb142)); have n9_ := Aside0.mk ((by rw [hg]; exact Nat.ne_of_gt (blk_lt (g := gb137) (o := .cells #[.int .i64 0, .slice none 0 0] 30 (0, 0)) (by (with_reducible repeat (first | refine blk_drewN ?_ _ | refine blk_drew ?_ | refine blk_alloc ?_ _)); exact BK137.out)) : gb142 ≠ gb137)); clear BK136; clear BK137; clear HB; have BK136 := n0_; have BK137 := n1_; have HB := n2_; have BK142 := n3_; have GW142 := n4_; have GE142 := n5_; have NB136_142 := n6_; have NB142_136 := n7_; have NB137_142 := n8_; have NB142_137 := n9_; clear n0_ n1_ n2_ n3_ n4_ n5_ n6_ n7_ n8_ n9_; clear hb hbox hg; have hnb17 := NB142_136.out; have hnc17 := NB136_142.out; have hnb18 := NB142_137.out; have hnc18 := NB137_142.out; have hcz19_0 : w16.cell? ⟨gb142, 0, none⟩ = some (.int .i64 0) := (blk_cell BK142.out 0).trans rfl; have hcz19_1 : w16.cell? ⟨gb142, 1, none⟩ = some (.slice none 0 0) := (blk_cell BK142.out 1).trans rfl; have hfz19_0 := blk_frozen BK142.out 0; have hfz19_1 := blk_frozen BK142.out 1; have hcz20_0 : w16.cell? ⟨gb136, 0, none⟩ = some (.int .i64 a0_0) := (blk_cell BK136.out 0).trans rfl; have hcz20_1 : w16.cell? ⟨gb136, 1, none⟩ = some (.slice A0_1 l0_1.length c0_1) := (blk_cell BK136.out 1).trans rfl; have hfz20_0 := blk_frozen BK136.out 0; have hfz20_1 := blk_frozen BK136.out 1))
    go_loopg [22] k (fun kq v22 w' => ∃ (x22_1 : Int) (x143001_1 : List (S30)) (u143001 : Value), v22 = .int .i64 x22_1 ∧ Aside0 (subst_mappedA.l0 kq l1 l0_1 (l0_1.length : Int) x22_1 a0_0 x143001_1 = some (r1, r2)) ∧ Aside0 (kq ≤ k) ∧ Aside0 (Kd.R k30 30 w' w.heap.size (fun k_ => k_ ≠ gb136 ∧ k_ ≠ gb137 ∧ k_ ≠ gb142) u143001 x143001_1) ∧ Aside0 (w'.heap[gb136]? = some (.cells #[.int .i64 a0_0, (.slice A0_1 l0_1.length c0_1)] 30 (0, 0))) ∧ Aside0 (w'.heap[gb137]? = some (.cells #[.int .i64 0, (.slice none 0 0)] 30 (0, 0))) ∧ Aside0 (w'.heap[gb142]? = some (.cells #[.int .i64 a0_0, u143001] 30 (0, 0))) ∧ Aside0 (Below w.heap.size w w'))
    case atStart => exact ⟨(0), (([] : List (S30))), (.slice none 0 0), (by first | rfl | (simp; done) | (simp [*]; done)), H', ⟨Nat.le_refl _⟩, ⟨by first | exact Kd.R_nil _ _ _ _ _ | exact Kd.N_nil _ _ _ _ _ | exact Kd.V_nil _ _ _ _ _ | exact Kd.Q_nil _ _ _ _ _ | exact Kd.S_nil _ _ _ _ _⟩, ⟨by (with_reducible repeat (first | refine blk_drewN ?_ _ | refine blk_drew ?_ | refine blk_alloc ?_ _)); refine blk_far ?_ NB136_142.out _; (with_reducible repeat (first | refine blk_drewN ?_ _ | refine blk_drew ?_ | refine blk_alloc ?_ _)); refine blk_far ?_ NB136_142.out _; (with_reducible repeat (first | refine blk_drewN ?_ _ | refine blk_drew ?_ | refine blk_alloc ?_ _)); exact BK136.out⟩, ⟨by (with_reducible repeat (first | refine blk_drewN ?_ _ | refine blk_drew ?_ | refine blk_alloc ?_ _)); refine blk_far ?_ NB137_142.out _; (with_reducible repeat (first | refine blk_drewN ?_ _ | refine blk_drew ?_ | refine blk_alloc ?_ _)); refine blk_far ?_ NB137_142.out _; (with_reducible repeat (first | refine blk_drewN ?_ _ | refine blk_drew ?_ | refine blk_alloc ?_ _)); exact BK137.out⟩, ⟨by (with_reducible repeat (first | refine blk_drewN ?_ _ | refine blk_drew ?_ | refine blk_alloc ?_ _)); refine blk_put (cs := #[.int .i64 a0_0, .slice none 0 0]) ?_ 1 _ rfl; (with_reducible repeat (first | refine blk_drewN ?_ _ | refine blk_drew ?_ | refine blk_alloc ?_ _)); refine blk_put (cs := #[.int .i64 0, .slice none 0 0]) ?_ 0 _ rfl; (with_reducible repeat (first | refine blk_drewN ?_ _ | refine blk_drew ?_ | refine blk_alloc ?_ _)); exact BK142.out⟩, ⟨by repeat (first | (with_reducible first | exact HB.out | apply below_alloc | apply pw_below_drewN | apply below_drew1 | refine below_set ?_ GE136.out | refine below_set ?_ GE137.out | refine below_set ?_ GE142.out) | exact HB.out)⟩⟩
    case round =>
      clear H'
      try clear c1
      try clear p2
      try clear c3
      try clear c3b0
      try clear p6
      try clear c7
      try clear c8
      try clear c14
      try clear c17
      try clear c18
      try clear hcz10_0
      try clear hcz10_1
      try clear hcz15_0
      try clear hcz15_1
      try clear hcz19_0
      try clear hcz19_1
      try clear hcz20_0
      try clear hcz20_1
      try clear hcz8_0
      try clear hcz8_1
      try clear hfz10_0
      try clear hfz10_1
      try clear hfz15_0
      try clear hfz15_1
      try clear hfz19_0
      try clear hfz19_1
      try clear hfz20_0
      try clear hfz20_1
      try clear hfz8_0
      try clear hfz8_1
      obtain ⟨x22_1, x143001_1, u143001, rfl, HA, HK1, HO_143001, BK136, BK137, BK142, HB⟩ := hrel
      cases gk with
      | zero => exact absurd HA.out (by simp [subst_mappedA.l0])
      | succ k1 =>
        have H := HA.out
        clear HA
        simp only [subst_mappedA.l0] at H
        by_cases c21 : x22_1 < (l0_1.length : Int)
        · rw [if_pos c21] at H
          have c21b0 : decide (x22_1 < (l0_1.length : Int)) = true := decide_eq_true c21
          clear c21
          by_cases c22 : 0 ≤ x22_1
          · rw [if_pos c22] at H
            have c22b0 : decide (0 ≤ x22_1) = true := decide_eq_true c22
            clear c22
            by_cases c23 : x22_1 < (l0_1.length : Int)
            · rw [if_pos c23] at H
              have c23b0 : decide (x22_1 < (l0_1.length : Int)) = true := decide_eq_true c23
              clear c23
              replace H := Option.bind_eq_some_iff.mp H
              obtain ⟨⟨t145, t146⟩, A240, H⟩ := H
              replace H : (if x143001_1.length < 4398046511104 then (subst_mappedA.l0 k1 l1 l0_1 (l0_1.length : Int) (wrap64 (x22_1 + 1)) a0_0 (x143001_1 ++ [(⟨t145, t146⟩ : S30)])) else (none)) = some (r1, r2) := H
              have A24 := Aside0.mk A240
              clear A240
              by_cases c25 : x143001_1.length < 4398046511104
              · rw [if_pos c25] at H
                have LMc25 := Aside0.mk c25
                clear c25
                obtain ⟨y149, hy149⟩ : ∃ y_ : List (S30), y_ = (x143001_1 ++ [(⟨t145, t146⟩ : S30)]) := ⟨_, rfl⟩
                replace H : (subst_mappedA.l0 k1 l1 l0_1 (l0_1.length : Int) (wrap64 (x22_1 + 1)) a0_0 y149) = some (r1, r2) := by first | (rw [hy149]; with_reducible exact H) | (have H2_ := (Option.bind_some _ _).symm.trans H; rw [hy149]; with_reducible exact H2_) | (have H2_ := (Option.bind_some _ _).symm.trans H; with_reducible exact H2_) | with_reducible exact H | (rw [hy149]; exact H) | exact H
                have Ny149 := Aside0.mk hy149
                clear hy149
                have H' := Aside0.mk H
                clear H
                have p143 : 0 ≤ (x22_1 : Int) := of_decide_eq_true (by first | (with_reducible assumption) | assumption)
                have q143 : x22_1 < (l0_1.length : Int) := of_decide_eq_true (by first | (with_reducible assumption) | assumption)
                obtain ⟨ad143, A143_1, c143_1, e143, hx143_0, hx143_1, hl143_1, hi143_1⟩ := at_T30 HR0_1.out x22_1 p143 q143
                cases e143
                replace hx143_0 := (HB.out.cell (World.block_lt_of_cell? w _ hx143_0)).trans hx143_0
                replace hx143_1 := (HB.out.cell (World.block_lt_of_cell? w _ hx143_1)).trans hx143_1
                have HR143_1 := Aside0.mk hi143_1
                have HC143_1 := Aside0.mk hl143_1
                clear hi143_1 hl143_1
                replace p143 := eq_true p143
                replace q143 := eq_true q143
                try go_wp2_with (first | ((with_reducible refine gate_dst (N := 7) rfl ?_); refine box_event ?hg (N := 7) ?hd (cs := #[.int .i64 0, .slice none 0 0]) (t := 30) ?hr ?_; (case hd => rfl); (case hg => rfl); (case hr => first | (go_simp; done) | (go_simp; rfl)); intro gb144 hg w26 hbox hb; have n0_ := Aside0.mk (Kd.R_below (Kd.R_elderB (by (with_reducible repeat (first | apply Kd.R_alloc | apply Kd.R_drewN | apply Kd.R_drew)); exact HO_143001.out) gb144 (Nat.le_of_eq hg.symm)) hb); have n1_ := Aside0.mk (blk_below (g := gb136) (o := .cells #[.int .i64 a0_0, .slice (some ad143) l0_1.length c0_1] 30 (0, 0)) (by (with_reducible repeat (first | refine blk_drewN ?_ _ | refine blk_drew ?_ | refine blk_alloc ?_ _)); exact BK136.out) hb); have n2_ := Aside0.mk (blk_below (g := gb137) (o := .cells #[.int .i64 0, .slice none 0 0] 30 (0, 0)) (by (with_reducible repeat (first | refine blk_drewN ?_ _ | refine blk_drew ?_ | refine blk_alloc ?_ _)); exact BK137.out) hb); have n3_ := Aside0.mk (blk_below (g := gb142) (o := .cells #[.int .i64 a0_0, u143001] 30 (0, 0)) (by (with_reducible repeat (first | refine blk_drewN ?_ _ | refine blk_drew ?_ | refine blk_alloc ?_ _)); exact BK142.out) hb); have n4_ := Aside0.mk (below_step (by repeat (first | (with_reducible first | exact HB.out | apply below_alloc | apply pw_below_drewN | apply below_drew1 | refine below_set ?_ GE136.out | refine below_set ?_ GE137.out | refine below_set ?_ GE142.out) | exact HB.out)) hb); have n5_ := Aside0.mk (hbox); have n6_ := Aside0.mk ((by rw [hg]; exact (below_size (by repeat (first | (with_reducible first | exact HB.out | apply below_alloc | apply pw_below_drewN | apply below_drew1 | refine below_set ?_ GE136.out | refine below_set ?_ GE137.out | refine below_set ?_ GE142.out) | exact HB.out))) : w.heap.size ≤ gb144)); have n7_ := Aside0.mk ((by rw [hg]; exact (below_size (by repeat (first | (with_reducible first | exact HB.out | apply below_alloc | apply pw_below_drewN | apply below_drew1 | refine below_set ?_ GE136.out | refine below_set ?_ GE137.out | refine below_set ?_ GE142.out) | exact HB.out))) : w.heap.size ≤ gb144)); have n8_ := Aside0.mk ((by rw [hg]; exact Nat.ne_of_lt (blk_lt (g := gb136) (o := .cells #[.int .i64 a0_0, .slice (some ad143) l0_1.length c0_1] 30 (0, 0)) (by (with_reducible repeat (first | refine blk_drewN ?_ _ | refine blk_drew ?_ | refine blk_alloc ?_ _)); exact BK136.out)) : gb136 ≠ gb144)); have n9_ := Aside0.mk ((by rw [hg]; exact Nat.ne_of_gt (blk_lt (g := gb136) (o := .cells #[.int .i64 a0_0, .slice (some ad143) l0_1.length c0_1] 30 (0, 0)) (by (with_reducible repeat (first | refine blk_drewN ?_ _ | refine blk_drew ?_ | refine blk_alloc ?_ _)); exact BK136.out)) : gb144 ≠ gb136)); have n10_ := Aside0.mk ((by rw [hg]; exact Nat.ne_of_lt (blk_lt (g := gb137) (o := .cells #[.int .i64 0, .slice none 0 0] 30 (0, 0)) (by (with_reducible repeat (first | refine blk_drewN ?_ _ | refine blk_drew ?_ | refine blk_alloc ?_ _)); exact BK137.out)) : gb137 ≠ gb144)); have n11_ := Aside0.mk ((by rw [hg]; exact Nat.ne_of_gt (blk_lt (g := gb137) (o := .cells #[.int .i64 0, .slice none 0 0] 30 (0, 0)) (by (with_reducible repeat (first | refine blk_drewN ?_ _ | refine blk_drew ?_ | refine blk_alloc ?_ _)); exact BK137.out)) : gb144 ≠ gb137)); have n12_ := Aside0.mk ((by rw [hg]; exact Nat.ne_of_lt (blk_lt (g := gb142) (o := .cells #[.int .i64 a0_0, u143001] 30 (0, 0)) (by (with_reducible repeat (first | refine blk_drewN ?_ _ | refine blk_drew ?_ | refine blk_alloc ?_ _)); exact BK142.out)) : gb142 ≠ gb144)); have n13_ := Aside0.mk ((by rw [hg]; exact Nat.ne_of_gt (blk_lt (g := gb142) (o := .cells #[.int .i64 a0_0, u143001] 30 (0, 0)) (by (with_reducible repeat (first | refine blk_drewN ?_ _ | refine blk_drew ?_ | refine blk_alloc ?_ _)); exact BK142.out)) : gb144 ≠ gb142)); clear HO_143001; clear BK136; clear BK137; clear BK142; clear HB; have HO_143001 := n0_; have BK136 := n1_; have BK137 := n2_; have BK142 := n3_; have HB := n4_; have BK144 := n5_; have GW144 := n6_; have GE144 := n7_; have NB136_144 := n8_; have NB144_136 := n9_; have NB137_144 := n10_; have NB144_137 := n11_; have NB142_144 := n12_; have NB144_142 := n13_; clear n0_ n1_ n2_ n3_ n4_ n5_ n6_ n7_ n8_ n9_ n10_ n11_ n12_ n13_; clear hb hbox hg; have hnb27 := NB144_136.out; have hnc27 := NB136_144.out; have hnb28 := NB144_137.out; have hnc28 := NB137_144.out; have hnb29 := NB144_142.out; have hnc29 := NB142_144.out; have hcz30_0 : w26.cell? ⟨gb144, 0, none⟩ = some (.int .i64 0) := (blk_cell BK144.out 0).trans rfl; have hcz30_1 : w26.cell? ⟨gb144, 1, none⟩ = some (.slice none 0 0) := (blk_cell BK144.out 1).trans rfl; have hfz30_0 := blk_frozen BK144.out 0; have hfz30_1 := blk_frozen BK144.out 1))
                have n0_ : Aside0 (Kd.R k30 30 ((w26.setCell ⟨gb144, 0, none⟩ (.int .i64 ((rd_T30 l0_1 x22_1).f0))).setCell ⟨gb144, 1, none⟩ (.slice A143_1 ((rd_T30 l0_1 x22_1).f1).length c143_1)) w.heap.size (fun k_ => k_ ≠ gb136 ∧ k_ ≠ gb137 ∧ k_ ≠ gb142 ∧ k_ ≠ gb144) u143001 x143001_1) := ⟨by (with_reducible repeat (first | apply Kd.R_alloc | apply Kd.R_drewN | apply Kd.R_drew)); exact Kd.R_mono (Kd.R_far (p := ⟨gb144, 1, none⟩) (Kd.R_far (p := ⟨gb144, 0, none⟩) (Kd.R_mono HO_143001.out (fun k_ hk => (⟨hk, hk.2⟩ : _ ∧ k_ ≠ gb144))) (fun _ hk => hk.2) (.int .i64 ((rd_T30 l0_1 x22_1).f0))) (fun _ hk => hk.2) (.slice A143_1 ((rd_T30 l0_1 x22_1).f1).length c143_1)) (fun _ hk => ⟨hk.1.1.1, ⟨hk.1.1.2.1, ⟨hk.1.1.2.2, hk.1.2⟩⟩⟩)⟩
                have n1_ : Aside0 (((w26.setCell ⟨gb144, 0, none⟩ (.int .i64 ((rd_T30 l0_1 x22_1).f0))).setCell ⟨gb144, 1, none⟩ (.slice A143_1 ((rd_T30 l0_1 x22_1).f1).length c143_1)).heap[gb136]? = some (.cells #[.int .i64 a0_0, .slice (some ad143) l0_1.length c0_1] 30 (0, 0))) := ⟨by (with_reducible repeat (first | refine blk_drewN ?_ _ | refine blk_drew ?_ | refine blk_alloc ?_ _)); refine blk_far ?_ NB136_144.out _; (with_reducible repeat (first | refine blk_drewN ?_ _ | refine blk_drew ?_ | refine blk_alloc ?_ _)); refine blk_far ?_ NB136_144.out _; (with_reducible repeat (first | refine blk_drewN ?_ _ | refine blk_drew ?_ | refine blk_alloc ?_ _)); exact BK136.out⟩
                have n2_ : Aside0 (((w26.setCell ⟨gb144, 0, none⟩ (.int .i64 ((rd_T30 l0_1 x22_1).f0))).setCell ⟨gb144, 1, none⟩ (.slice A143_1 ((rd_T30 l0_1 x22_1).f1).length c143_1)).heap[gb137]? = some (.cells #[.int .i64 0, .slice none 0 0] 30 (0, 0))) := ⟨by (with_reducible repeat (first | refine blk_drewN ?_ _ | refine blk_drew ?_ | refine blk_alloc ?_ _)); refine blk_far ?_ NB137_144.out _; (with_reducible repeat (first | refine blk_drewN ?_ _ | refine blk_drew ?_ | refine blk_alloc ?_ _)); refine blk_far ?_ NB137_144.out _; (with_reducible repeat (first | refine blk_drewN ?_ _ | refine blk_drew ?_ | refine blk_alloc ?_ _)); exact BK137.out⟩
                have n3_ : Aside0 (((w26.setCell ⟨gb144, 0, none⟩ (.int .i64 ((rd_T30 l0_1 x22_1).f0))).setCell ⟨gb144, 1, none⟩ (.slice A143_1 ((rd_T30 l0_1 x22_1).f1).length c143_1)).heap[gb142]? = some (.cells #[.int .i64 a0_0, u143001] 30 (0, 0))) := ⟨by (with_reducible repeat (first | refine blk_drewN ?_ _ | refine blk_drew ?_ | refine blk_alloc ?_ _)); refine blk_far ?_ NB142_144.out _; (with_reducible repeat (first | refine blk_drewN ?_ _ | refine blk_drew ?_ | refine blk_alloc ?_ _)); refine blk_far ?_ NB142_144.out _; (with_reducible repeat (first | refine blk_drewN ?_ _ | refine blk_drew ?_ | refine blk_alloc ?_ _)); exact BK142.out⟩
                have n4_ : Aside0 (((w26.setCell ⟨gb144, 0, none⟩ (.int .i64 ((rd_T30 l0_1 x22_1).f0))).setCell ⟨gb144, 1, none⟩ (.slice A143_1 ((rd_T30 l0_1 x22_1).f1).length c143_1)).heap[gb144]? = some (.cells #[.int .i64 ((rd_T30 l0_1 x22_1).f0), .slice A143_1 ((rd_T30 l0_1 x22_1).f1).length c143_1] 30 (0, 0))) := ⟨by (with_reducible repeat (first | refine blk_drewN ?_ _ | refine blk_drew ?_ | refine blk_alloc ?_ _)); refine blk_put (cs := #[.int .i64 ((rd_T30 l0_1 x22_1).f0), .slice none 0 0]) ?_ 1 _ rfl; (with_reducible repeat (first | refine blk_drewN ?_ _ | refine blk_drew ?_ | refine blk_alloc ?_ _)); refine blk_put (cs := #[.int .i64 0, .slice none 0 0]) ?_ 0 _ rfl; (with_reducible repeat (first | refine blk_drewN ?_ _ | refine blk_drew ?_ | refine blk_alloc ?_ _)); exact BK144.out⟩
                have n5_ : Aside0 (Below w.heap.size w ((w26.setCell ⟨gb144, 0, none⟩ (.int .i64 ((rd_T30 l0_1 x22_1).f0))).setCell ⟨gb144, 1, none⟩ (.slice A143_1 ((rd_T30 l0_1 x22_1).f1).length c143_1))) := ⟨by repeat (first | (with_reducible first | exact HB.out | apply below_alloc | apply pw_below_drewN | apply below_drew1 | refine below_set ?_ GE136.out | refine below_set ?_ GE137.out | refine below_set ?_ GE142.out | refine below_set ?_ GE144.out) | exact HB.out)⟩
                (try clear HO_143001)
                (try clear BK136)
                (try clear BK137)
                (try clear BK142)
                (try clear BK144)
                (try clear HB)
                generalize ((w26.setCell ⟨gb144, 0, none⟩ (.int .i64 ((rd_T30 l0_1 x22_1).f0))).setCell ⟨gb144, 1, none⟩ (.slice A143_1 ((rd_T30 l0_1 x22_1).f1).length c143_1)) = w31 at n0_ n1_ n2_ n3_ n4_ n5_ ⊢
                have HO_143001 := n0_
                have BK136 := n1_
                have BK137 := n2_
                have BK142 := n3_
                have BK144 := n4_
                have HB := n5_
                clear n0_ n1_ n2_ n3_ n4_ n5_
                have n0_ := Aside0.mk (Kd.R_drew HO_143001.out)
                have n1_ := Aside0.mk (blk_drew BK136.out)
                have n2_ := Aside0.mk (blk_drew BK137.out)
                have n3_ := Aside0.mk (blk_drew BK142.out)
                have n4_ := Aside0.mk (blk_drew BK144.out)
                have n5_ := Aside0.mk (below_drew1 HB.out)
                clear HO_143001
                clear BK136
                clear BK137
                clear BK142
                clear BK144
                clear HB
                have HO_143001 := n0_
                have BK136 := n1_
                have BK137 := n2_
                have BK142 := n3_
                have BK144 := n4_
                have HB := n5_
                clear n0_ n1_ n2_ n3_ n4_ n5_
                refine start_ (n := 9) (S := fun w' => w'.cell? ⟨gb142, 0, none⟩ = some (.int .i64 a0_0) ∧ w'.cell? ⟨gb142, 1, none⟩ = some (u143001) ∧ w'.cell? ⟨gb144, 0, none⟩ = some (.int .i64 ((rd_T30 l0_1 x22_1).f0)) ∧ w'.cell? ⟨gb144, 1, none⟩ = some (.slice A143_1 ((rd_T30 l0_1 x22_1).f1).length c143_1)) (ds := [8]) #[false, false, false, false, false, false, false, false, false] (by kernel_rfl) rfl rfl ⟨(blk_cell BK142.out 0).trans rfl, (blk_cell BK142.out 1).trans rfl, (blk_cell BK144.out 0).trans rfl, (blk_cell BK144.out 1).trans rfl⟩ (fun hHeld => ?_); refine with_tabW subst_mappedA.tab7 subst_mappedA.bits7 (fun HT_ HW_ => ?_)
                generalize w31.drew = w32 at HO_143001 BK136 BK137 BK142 BK144 HB hHeld ⊢
                refine pure_ (i := 0) (N := some 26) (v := ?_) (a' := ?_) #[true, false, false, false, false, false, false, false, false] rfl rfl (any_of HT_.out (by kernel_rfl)) (fun _ _ _ h => h) (Or.inl ⟨by rfl, ?_⟩) ?_ ?_
                rotate_left
                · intro w'
                  go_simp
                  with_reducible rfl
                rotate_left
                · simp only [Act.put, List.setIfInBounds_toArray, List.set_cons_zero, List.set_cons_succ, i64_w, i32_w]
                  rfl
                refine pure_ (i := 3) (N := some 29) (v := ?_) (a' := ?_) #[true, false, false, true, false, false, false, false, false] rfl rfl (any_of HT_.out (by kernel_rfl)) (fun _ _ _ h => h) (Or.inl ⟨by rfl, ?_⟩) ?_ ?_
                rotate_left
                · intro w'
                  go_simp
                  with_reducible rfl
                rotate_left
                · simp only [Act.put, List.setIfInBounds_toArray, List.set_cons_zero, List.set_cons_succ, i64_w, i32_w]
                  rfl
                refine take_ (i := 1) (N := some 27) (v := ?_) (a' := ?_) #[true, true, false, true, false, false, false, false, false] rfl rfl (take_ofW HT_.out HW_.out (by kernel_rfl)) (fun _ _ _ h => h) (Or.inl ⟨by rfl, ?_⟩) hHeld ?_ ?_
                rotate_left
                · rintro w' ⟨s0, s1, s2, s3⟩
                  go_simp
                  with_reducible rfl
                rotate_left
                · simp only [Act.put, List.setIfInBounds_toArray, List.set_cons_zero, List.set_cons_succ, i64_w, i32_w]
                  rfl
                refine take_ (i := 2) (N := some 28) (v := ?_) (a' := ?_) #[true, true, true, true, false, false, false, false, false] rfl rfl (take_ofW HT_.out HW_.out (by kernel_rfl)) (fun _ _ _ h => h) (Or.inl ⟨by rfl, ?_⟩) hHeld ?_ ?_
                rotate_left
                · rintro w' ⟨s0, s1, s2, s3⟩
                  go_simp
                  with_reducible rfl
                rotate_left
                · simp only [Act.put, List.setIfInBounds_toArray, List.set_cons_zero, List.set_cons_succ, i64_w, i32_w]
                  rfl
                refine one_ (i := 4) (N := some 30) #[true, true, true, true, true, false, false, false, false] rfl rfl (one_of HT_.out (by kernel_rfl)) (by decide) (fun K hK => ?_)
                refine goes_ Try.func81 (by kernel_rfl) rfl #[.agg #[.int .i64 ((rd_T30 l0_1 x22_1).f0), .slice A143_1 ((rd_T30 l0_1 x22_1).f1).length c143_1], (.func (.func 84) #[] #[.pointer (some ⟨gq, 0, none⟩)])] (by rfl) rfl rfl (by (try simp only [List.map_toArray, List.map_cons, List.map_nil]); first | done | rfl | (simp only [List.length_drop, List.length_take]; rfl)) ?_
                with_reducible refine (ih k1 (by have := HK1.out; omega) ((rd_T30 l0_1 x22_1).f0) _ _ ((rd_T30 l0_1 x22_1).f1) _ _ l1 t145 t146 _ ?side1 ?side2 ?side3 ?side4 (HQ.out _ (by repeat (first | (with_reducible first | exact HB.out | apply below_alloc | apply pw_below_drewN | apply below_drew1) | exact HB.out))) A24.out).mono ?_
                (case side1 => repeat (first | exact (Kd.C_below HR143_1.out HB.out) | (with_reducible refine Kd.C_alloc ?_ _) | (with_reducible refine Kd.C_drewN ?_ _) | (with_reducible refine Kd.C_drew ?_)))
                (case side2 => exact HC143_1.out)
                (case side3 => repeat (first | exact (Kd.C_below HR1.out HB.out) | (with_reducible refine Kd.C_alloc ?_ _) | (with_reducible refine Kd.C_drewN ?_ _) | (with_reducible refine Kd.C_drew ?_)))
                (case side4 => exact HC1.out)
                rintro e w33 ⟨v147, rfl, ho0, hb⟩
                refine ⟨_, rfl, ?_⟩
                have n0_ := Aside0.mk (Kd.R_elder' (by (with_reducible repeat (first | apply Kd.R_alloc | apply Kd.R_drewN | apply Kd.R_drew)); exact HO_143001.out) (Kd.R_base ho0) hb)
                have n1_ := Aside0.mk (Kd.R_lower (Kd.R_newB (Kd.R_newB (Kd.R_newB (Kd.R_newB (Kd.R_new' ho0 (Kd.R_lt (by (with_reducible repeat (first | apply Kd.R_alloc | apply Kd.R_drewN | apply Kd.R_drew)); exact HO_143001.out))) (g := gb136) (o := .cells #[.int .i64 a0_0, .slice (some ad143) l0_1.length c0_1] 30 (0, 0)) (by (with_reducible repeat (first | refine blk_drewN ?_ _ | refine blk_drew ?_ | refine blk_alloc ?_ _)); exact BK136.out)) (g := gb137) (o := .cells #[.int .i64 0, .slice none 0 0] 30 (0, 0)) (by (with_reducible repeat (first | refine blk_drewN ?_ _ | refine blk_drew ?_ | refine blk_alloc ?_ _)); exact BK137.out)) (g := gb142) (o := .cells #[.int .i64 a0_0, u143001] 30 (0, 0)) (by (with_reducible repeat (first | refine blk_drewN ?_ _ | refine blk_drew ?_ | refine blk_alloc ?_ _)); exact BK142.out)) (g := gb144) (o := .cells #[.int .i64 ((rd_T30 l0_1 x22_1).f0), .slice A143_1 ((rd_T30 l0_1 x22_1).f1).length c143_1] 30 (0, 0)) (by (with_reducible repeat (first | refine blk_drewN ?_ _ | refine blk_drew ?_ | refine blk_alloc ?_ _)); exact BK144.out)) (below_size (by repeat (first | (with_reducible first | exact HB.out | apply below_alloc | apply pw_below_drewN | apply below_drew1 | refine below_set ?_ GE136.out | refine below_set ?_ GE137.out | refine below_set ?_ GE142.out | refine below_set ?_ GE144.out) | exact HB.out))))
                have n2_ := Aside0.mk (blk_below (g := gb136) (o := .cells #[.int .i64 a0_0, .slice (some ad143) l0_1.length c0_1] 30 (0, 0)) (by (with_reducible repeat (first | refine blk_drewN ?_ _ | refine blk_drew ?_ | refine blk_alloc ?_ _)); exact BK136.out) hb)
                have n3_ := Aside0.mk (blk_below (g := gb137) (o := .cells #[.int .i64 0, .slice none 0 0] 30 (0, 0)) (by (with_reducible repeat (first | refine blk_drewN ?_ _ | refine blk_drew ?_ | refine blk_alloc ?_ _)); exact BK137.out) hb)
                have n4_ := Aside0.mk (blk_below (g := gb142) (o := .cells #[.int .i64 a0_0, u143001] 30 (0, 0)) (by (with_reducible repeat (first | refine blk_drewN ?_ _ | refine blk_drew ?_ | refine blk_alloc ?_ _)); exact BK142.out) hb)
                have n5_ := Aside0.mk (blk_below (g := gb144) (o := .cells #[.int .i64 ((rd_T30 l0_1 x22_1).f0), .slice A143_1 ((rd_T30 l0_1 x22_1).f1).length c143_1] 30 (0, 0)) (by (with_reducible repeat (first | refine blk_drewN ?_ _ | refine blk_drew ?_ | refine blk_alloc ?_ _)); exact BK144.out) hb)
                have n6_ := Aside0.mk (below_step (by repeat (first | (with_reducible first | exact HB.out | apply below_alloc | apply pw_below_drewN | apply below_drew1 | refine below_set ?_ GE136.out | refine below_set ?_ GE137.out | refine below_set ?_ GE142.out | refine below_set ?_ GE144.out) | exact HB.out)) hb)
                clear HO_143001
                clear BK136
                clear BK137
                clear BK142
                clear BK144
                clear HB
                have HO_143001 := n0_
                have HO148 := n1_
                have BK136 := n2_
                have BK137 := n3_
                have BK142 := n4_
                have BK144 := n5_
                have HB := n6_
                clear n0_ n1_ n2_ n3_ n4_ n5_ n6_
                (try clear hb)
                (try clear hb2)
                (try clear hk)
                (try clear hi)
                (try clear ho0)
                obtain ⟨Ao35, co35, eo35⟩ := Kd.R_slice HO148.out
                (first | subst eo35 | (injection eo35 with f1_ f2_ f3_; have f4_ := f1_.symm; have f5_ := f3_.symm; clear f1_ f2_ f3_; subst f4_; subst f5_))
                refine hK.out _ _ ⟨(blk_cell BK142.out 0).trans rfl, (blk_cell BK142.out 1).trans rfl, (blk_cell BK144.out 0).trans rfl, (blk_cell BK144.out 1).trans rfl⟩ (fun hHeld => ?_)
                clear hK K
                refine norm_ (a' := ?_) ?_ ?_
                rotate_left
                · show Act.put _ (some 30) _ = _
                  simp only [Act.put, List.setIfInBounds_toArray, List.set_cons_zero, List.set_cons_succ, i64_w, i32_w]
                  rfl
                refine one_ (i := 5) (N := some 31) #[true, true, true, true, true, true, false, false, false] rfl rfl (one_of HT_.out (by kernel_rfl)) (by decide) (fun K hK => ?_)
                refine value_ (w1 := ?_) (v := ?_) (by rfl) rfl ?_ ?_
                rotate_left 2
                · go_simp
                  constructor
                  · rfl
                  · rfl
                refine hK.out _ _ ⟨(blk_cell (blk_alloc BK142.out _) 0).trans rfl, (blk_cell (blk_alloc BK142.out _) 1).trans rfl, (blk_cell (blk_alloc BK144.out _) 0).trans rfl, (blk_cell (blk_alloc BK144.out _) 1).trans rfl⟩ (fun hHeld => ?_)
                clear hK K
                refine norm_ (a' := ?_) ?_ ?_
                rotate_left
                · show Act.put _ (some 31) _ = _
                  simp only [Act.put, List.setIfInBounds_toArray, List.set_cons_zero, List.set_cons_succ, i64_w, i32_w]
                  rfl
                refine one_ (i := 6) (N := some 32) #[true, true, true, true, true, true, true, false, false] rfl rfl (one_of HT_.out (by kernel_rfl)) (by decide) (fun K hK => ?_)
                refine Kd.R_append_step k30 (w0 := w) w.heap.size (by rfl) (.tmp 27) (.tmp 31) 28 30 (.agg #[(.int .i64 0), (.slice none 0 0)]) 32 rfl Try.underlying28 info30 rfl (by decide) (by omega) u143001 x143001_1 (⟨t145, t146⟩ : S30) [.int .i64 t145, .slice Ao35 t146.length co35] (fun k_ => k_ ≠ gb136 ∧ k_ ≠ gb137 ∧ k_ ≠ gb142 ∧ k_ ≠ gb144) (fun k_ => ((fun k_ => k_ ≠ gb136 ∧ k_ ≠ gb137 ∧ k_ ≠ gb142 ∧ k_ ≠ gb144)) k_ ∧ some k_ ≠ (u143001 : Value).ownBlock) rfl rfl ?aP (fun _ hk => hk) ?aF ?aO ?aB ?aS ?aL ?_
                (case aP => exact k30_mkM _ _ _ (⟨t145, t146⟩ : S30) (Kd.R_mono (HO148.out) (fun k_ hk => ⟨⟨hk.1.1.1.2, ⟨hk.1.1.2, ⟨hk.1.2, hk.2⟩⟩⟩, hk.1.1.1.1.2⟩)))
                (case aB => exact (by repeat (first | (with_reducible first | exact HB.out | apply below_alloc | apply pw_below_drewN | apply below_drew1 | refine below_set ?_ GE136.out | refine below_set ?_ GE137.out | refine below_set ?_ GE142.out | refine below_set ?_ GE144.out) | exact HB.out)))
                (case aF => exact (fun k_ hk => ⟨Kd.freshB (g := gb136) (o := .cells #[.int .i64 a0_0, .slice (some ad143) l0_1.length c0_1] 30 (0, 0)) (by (with_reducible repeat (first | refine blk_drewN ?_ _ | refine blk_drew ?_ | refine blk_alloc ?_ _)); exact BK136.out) k_ hk, Kd.freshB (g := gb137) (o := .cells #[.int .i64 0, .slice none 0 0] 30 (0, 0)) (by (with_reducible repeat (first | refine blk_drewN ?_ _ | refine blk_drew ?_ | refine blk_alloc ?_ _)); exact BK137.out) k_ hk, Kd.freshB (g := gb142) (o := .cells #[.int .i64 a0_0, u143001] 30 (0, 0)) (by (with_reducible repeat (first | refine blk_drewN ?_ _ | refine blk_drew ?_ | refine blk_alloc ?_ _)); exact BK142.out) k_ hk, Kd.freshB (g := gb144) (o := .cells #[.int .i64 ((rd_T30 l0_1 x22_1).f0), .slice A143_1 ((rd_T30 l0_1 x22_1).f1).length c143_1] 30 (0, 0)) (by (with_reducible repeat (first | refine blk_drewN ?_ _ | refine blk_drew ?_ | refine blk_alloc ?_ _)); exact BK144.out) k_ hk⟩))
                (case aO => exact (by (with_reducible repeat (first | apply Kd.R_alloc | apply Kd.R_drewN | apply Kd.R_drew)); exact Kd.R_mono HO_143001.out (fun _ hk => ⟨hk.1.1, ⟨hk.1.2.1, ⟨hk.1.2.2.1, hk.1.2.2.2⟩⟩⟩)))
                (case aS => exact (below_size (by repeat (first | (with_reducible first | exact HB.out | apply below_alloc | apply pw_below_drewN | apply below_drew1 | refine below_set ?_ GE136.out | refine below_set ?_ GE137.out | refine below_set ?_ GE142.out | refine below_set ?_ GE144.out) | exact HB.out))))
                (case aL => have := LMc25.out; omega)
                intro v150 w34 ho hb hg hat
                rw [← Ny149.out] at ho
                have n0_ := Aside0.mk (blk_grown (g := gb136) (o := .cells #[.int .i64 a0_0, .slice (some ad143) l0_1.length c0_1] 30 (0, 0)) (by (with_reducible repeat (first | refine blk_drewN ?_ _ | refine blk_drew ?_ | refine blk_alloc ?_ _)); exact BK136.out) hg (Kd.R_away HO_143001.out (fun _ hk => hk.1.1)))
                have n1_ := Aside0.mk (blk_grown (g := gb137) (o := .cells #[.int .i64 0, .slice none 0 0] 30 (0, 0)) (by (with_reducible repeat (first | refine blk_drewN ?_ _ | refine blk_drew ?_ | refine blk_alloc ?_ _)); exact BK137.out) hg (Kd.R_away HO_143001.out (fun _ hk => hk.1.2.1)))
                have n2_ := Aside0.mk (blk_grown (g := gb142) (o := .cells #[.int .i64 a0_0, u143001] 30 (0, 0)) (by (with_reducible repeat (first | refine blk_drewN ?_ _ | refine blk_drew ?_ | refine blk_alloc ?_ _)); exact BK142.out) hg (Kd.R_away HO_143001.out (fun _ hk => hk.1.2.2.1)))
                have n3_ := Aside0.mk (blk_grown (g := gb144) (o := .cells #[.int .i64 ((rd_T30 l0_1 x22_1).f0), .slice A143_1 ((rd_T30 l0_1 x22_1).f1).length c143_1] 30 (0, 0)) (by (with_reducible repeat (first | refine blk_drewN ?_ _ | refine blk_drew ?_ | refine blk_alloc ?_ _)); exact BK144.out) hg (Kd.R_away HO_143001.out (fun _ hk => hk.1.2.2.2)))
                have n4_ := Aside0.mk (hb)
                have n5_ := Aside0.mk (ho)
                clear BK136
                clear BK137
                clear BK142
                clear BK144
                clear HB
                clear HO_143001
                clear HO148
                have BK136 := n0_
                have BK137 := n1_
                have BK142 := n2_
                have BK144 := n3_
                have HB := n4_
                have HO151 := n5_
                clear n0_ n1_ n2_ n3_ n4_ n5_
                clear ho hb hg hat
                obtain ⟨Ao36, co36, eo36⟩ := Kd.R_slice HO151.out
                (first | subst eo36 | (injection eo36 with f1_ f2_ f3_; have f4_ := f1_.symm; have f5_ := f3_.symm; clear f1_ f2_ f3_; subst f4_; subst f5_))
                refine hK.out _ _ ⟨(blk_cell BK142.out 0).trans rfl, (blk_cell BK142.out 1).trans rfl, (blk_cell BK144.out 0).trans rfl, (blk_cell BK144.out 1).trans rfl⟩ (fun hHeld => ?_)
                clear hK K
                refine norm_ (a' := ?_) ?_ ?_
                rotate_left
                · show Act.put _ (some 32) _ = _
                  simp only [Act.put, List.setIfInBounds_toArray, List.set_cons_zero, List.set_cons_succ, i64_w, i32_w]
                  rfl
                refine pure_ (i := 7) (N := some 33) (v := ?_) (a' := ?_) #[true, true, true, true, true, true, true, true, false] rfl rfl (any_of HT_.out (by kernel_rfl)) (fun _ _ _ h => h) (Or.inl ⟨by rfl, ?_⟩) ?_ ?_
                rotate_left
                · intro w'
                  go_simp
                  with_reducible rfl
                rotate_left
                · simp only [Act.put, List.setIfInBounds_toArray, List.set_cons_zero, List.set_cons_succ, i64_w, i32_w]
                  rfl
                refine last_ (i := 8) (N := none) #[true, true, true, true, true, true, true, true, true] rfl rfl (one_of HT_.out (by kernel_rfl)) (by decide) (fun K hK => ?_)
                have hs37 : w34.cell? ⟨gb142, 1, none⟩ = some (u143001) := (blk_cell BK142.out 1).trans rfl
                have hfs37 := blk_frozen BK142.out 1
                have hns37_0 := NB136_142.out
                have hns37_1 := NB137_142.out
                have hns37_3 := NB144_142.out
                have hms37_0 := NB142_136.out
                have hms37_1 := NB142_137.out
                have hms37_3 := NB142_144.out
                refine skip_ (w1 := ?_) (by rfl) rfl ?_ ?_
                rotate_left
                · go_simp
                  rfl
                refine hK.out _ _ ?_
                clear hK K
                refine done_ (done_of HT_.out (by kernel_rfl)) ?_
                try go_wp2
                go_roundg k1
                case measure => have := HK1.out; omega
                case rel => exact ⟨(wrap64 (x22_1 + 1)), (y149), (.slice Ao36 y149.length co36), (by first | rfl | (simp; done) | (simp [*]; done)), H', ⟨by have := HK1.out; omega⟩, ⟨by (with_reducible repeat (first | apply Kd.R_alloc | apply Kd.R_drewN | apply Kd.R_drew)); exact Kd.R_mono (Kd.R_far (p := ⟨gb142, 1, none⟩) (Kd.R_mono HO151.out (fun k_ hk => (⟨hk, hk.2.2.1⟩ : _ ∧ k_ ≠ gb142))) (fun _ hk => hk.2) (.slice Ao36 y149.length co36)) (fun _ hk => ⟨hk.1.1, ⟨hk.1.2.1, hk.1.2.2.1⟩⟩)⟩, ⟨by (with_reducible repeat (first | refine blk_drewN ?_ _ | refine blk_drew ?_ | refine blk_alloc ?_ _)); refine blk_far ?_ NB136_142.out _; (with_reducible repeat (first | refine blk_drewN ?_ _ | refine blk_drew ?_ | refine blk_alloc ?_ _)); exact BK136.out⟩, ⟨by (with_reducible repeat (first | refine blk_drewN ?_ _ | refine blk_drew ?_ | refine blk_alloc ?_ _)); refine blk_far ?_ NB137_142.out _; (with_reducible repeat (first | refine blk_drewN ?_ _ | refine blk_drew ?_ | refine blk_alloc ?_ _)); exact BK137.out⟩, ⟨by (with_reducible repeat (first | refine blk_drewN ?_ _ | refine blk_drew ?_ | refine blk_alloc ?_ _)); refine blk_put (cs := #[.int .i64 a0_0, u143001]) ?_ 1 _ rfl; (with_reducible repeat (first | refine blk_drewN ?_ _ | refine blk_drew ?_ | refine blk_alloc ?_ _)); exact BK142.out⟩, ⟨by repeat (first | (with_reducible first | exact HB.out | apply below_alloc | apply pw_below_drewN | apply below_drew1 | refine below_set ?_ GE136.out | refine below_set ?_ GE137.out | refine below_set ?_ GE142.out | refine below_set ?_ GE144.out) | exact HB.out)⟩⟩
              · rw [if_neg c25] at H
                exact absurd H (by simp)
            · rw [if_neg c23] at H
              exact absurd H (by simp)
          · rw [if_neg c22] at H
            exact absurd H (by simp)
        · rw [if_neg c21] at H
          have c21b0 : decide (x22_1 < (l0_1.length : Int)) = false := decide_eq_false c21
          clear c21
          simp only [Option.some.injEq, Prod.mk.injEq] at H
          obtain ⟨rfl, rfl⟩ := H
          have hnb38 := NB142_136.out
          have hnc38 := NB136_142.out
          have hnb39 := NB142_137.out
          have hnc39 := NB137_142.out
          have hcz40_0 : wr.cell? ⟨gb142, 0, none⟩ = some (.int .i64 a0_0) := (blk_cell BK142.out 0).trans rfl
          have hcz40_1 : wr.cell? ⟨gb142, 1, none⟩ = some (u143001) := (blk_cell BK142.out 1).trans rfl
          have hfz40_0 := blk_frozen BK142.out 0
          have hfz40_1 := blk_frozen BK142.out 1
          have hnb41 := NB137_136.out
          have hnc41 := NB136_137.out
          have hcz42_0 : wr.cell? ⟨gb137, 0, none⟩ = some (.int .i64 0) := (blk_cell BK137.out 0).trans rfl
          have hcz42_1 : wr.cell? ⟨gb137, 1, none⟩ = some (.slice none 0 0) := (blk_cell BK137.out 1).trans rfl
          have hfz42_0 := blk_frozen BK137.out 0
          have hfz42_1 := blk_frozen BK137.out 1
          obtain ⟨Ao43, co43, eo43⟩ := Kd.R_slice HO_143001.out
          subst eo43
          go_wp2
          refine bodyPost_ret (results_cell_row rfl _ _ gb137 30 #[.int .i64 a0_0, .slice Ao43 x143001_1.length co43] (0, 0) _ rfl (by (with_reducible repeat (first | refine blk_drewN ?_ _ | refine blk_drew ?_ | refine blk_alloc ?_ _)); refine blk_put (cs := #[.int .i64 a0_0, .slice none 0 0]) ?_ 1 _ rfl; (with_reducible repeat (first | refine blk_drewN ?_ _ | refine blk_drew ?_ | refine blk_alloc ?_ _)); refine blk_put (cs := #[.int .i64 0, .slice none 0 0]) ?_ 0 _ rfl; (with_reducible repeat (first | refine blk_drewN ?_ _ | refine blk_drew ?_ | refine blk_alloc ?_ _)); exact BK137.out) Try.underlying30 rfl (by kernel_rfl)) rfl ?_
          exact ⟨_, by first | rfl | (simp [errW_none, errW_some] <;> rfl) | (simp [*, errW_none, errW_some] <;> rfl), by (with_reducible repeat (first | apply Kd.R_alloc | apply Kd.R_drewN | apply Kd.R_drew)); exact Kd.R_mono (Kd.R_far (p := ⟨gb137, 1, none⟩) (Kd.R_far (p := ⟨gb137, 0, none⟩) (Kd.R_mono HO_143001.out (fun k_ hk => (⟨hk, hk.2.1⟩ : _ ∧ k_ ≠ gb137))) (fun _ hk => hk.2) (.int .i64 a0_0)) (fun _ hk => hk.2) (.slice Ao43 x143001_1.length co43)) (fun _ hk => trivial), by repeat (first | (with_reducible first | exact HB.out | apply below_alloc | apply pw_below_drewN | apply below_drew1 | refine below_set ?_ GE136.out | refine below_set ?_ GE137.out | refine below_set ?_ GE142.out) | exact HB.out)⟩
end Go.Proofs.Ytpfddihcikiofaa.P
end

section
namespace Go.Proofs.Ytpfddihcikiofaa.P
open Go.RowKit Go.Proofs.YtpfddihcikiofaaW.PrintWords Go.Proofs.YtpfddihcikiofaaW.PrintLast Go.Proofs.YtpfddihcikiofaaW.PrintMore
set_option linter.unusedVariables false
set_option linter.unusedSimpArgs false
structure FP where
  p : (Nat → Prop) → Value → World → Prop
  step : ∀ {ok ok' : Nat → Prop} {u : Value} {w w' : World}, p ok u w → (∀ k, ok k → k < w.heap.size → w'.heap[k]? = w.heap[k]?) → (∀ k, ok k → k < w.heap.size → ok' k) → p ok' u w'
def TermF (d : Kd S30) (x : S30) (P : Nat → Prop) : FP where
  p ok u w := ∃ A c, u = .agg #[.int .i64 x.f0, .slice A x.f1.length c] ∧ x.f1.length ≤ c ∧ Kd.F d w (fun k => ok k ∧ P k) A x.f1.length x.f1
  step := fun ⟨A, c, h1, h2, h3⟩ hm ho => ⟨A, c, h1, h2, Kd.F_mono (Kd.F_step (Kd.F_bound h3) (fun k hk hlt => hm k hk.1.1 hlt)) (fun k hk => ⟨ho k hk.1.1 hk.2, hk.1.2⟩)⟩
def TupF (d : Kd S30) (x : S30) (b : Bool) (P : Nat → Prop) : FP where
  p ok u w := ∃ A c, u = .tuple #[.agg #[.int .i64 x.f0, .slice A x.f1.length c], .bool b] ∧ x.f1.length ≤ c ∧ Kd.F d w (fun k => ok k ∧ P k) A x.f1.length x.f1
  step := fun ⟨A, c, h1, h2, h3⟩ hm ho => ⟨A, c, h1, h2, Kd.F_mono (Kd.F_step (Kd.F_bound h3) (fun k hk hlt => hm k hk.1.1 hlt)) (fun k hk => ⟨ho k hk.1.1 hk.2, hk.1.2⟩)⟩
def RowF {α : Type} (d : Kd α) (l : List α) (P : Nat → Prop) : FP where
  p ok u w := ∃ A c, u = .slice A l.length c ∧ l.length ≤ c ∧ Kd.F d w (fun k => ok k ∧ P k) A l.length l
  step := fun ⟨A, c, h1, h2, h3⟩ hm ho => ⟨A, c, h1, h2, Kd.F_mono (Kd.F_step (Kd.F_bound h3) (fun k hk hlt => hm k hk.1.1 hlt)) (fun k hk => ⟨ho k hk.1.1 hk.2, hk.1.2⟩)⟩
def okF (ia : Nat) (v : Nat → Value) (d : Nat → Bool) (k : Nat) : Prop := d ia = true → v ia ≠ .pointer (some ⟨k, 0, none⟩)
def RetJ (N : Nat) (t : TypeId) (cs : List (Nat × FP)) (ia is ix : Nat) : BoxI := fun v d w =>
  N ≤ w.heap.size ∧ (∀ q ∈ cs, d q.1 = true → q.2.p (okF ia v d) (v q.1) w) ∧
  (d ia = true → ∃ g, v ia = .pointer (some ⟨g, 0, none⟩) ∧ N ≤ g ∧ g < w.heap.size ∧ w.heap[g]? = some (.cells (if d is = true then cellsOf (v ix) else #[.int .i64 0, .slice none 0 0]) t (0, 0))) ∧
  (d is = true → d ia = true ∧ d ix = true)
section
variable {N : Nat} {t : TypeId} {cs : List (Nat × FP)} {ia is ix : Nat}
theorem RetJ.start (w : World) (hN : N ≤ w.heap.size) (v : Nat → Value) : RetJ N t cs ia is ix v (fun _ => false) w := ⟨hN, fun _ _ h => (by cases h), fun h => (by cases h), fun h => (by cases h)⟩
theorem okF.other {v : Nat → Value} {d : Nat → Bool} {i : Nat} {u : Value} (hi : ia ≠ i) (k : Nat) : okF ia (upd v i u) (upd d i true) k ↔ okF ia v d k := by
  unfold okF
  rw [upd_other _ _ hi, upd_other _ _ hi]
theorem okF.ne {v : Nat → Value} {d : Nat → Bool} {k g : Nat} (h : okF ia v d k) (hd : d ia = true) (hv : v ia = .pointer (some ⟨g, 0, none⟩)) : k ≠ g := fun e => h hd (by rw [hv, e])
theorem RetJ.old {v : Nat → Value} {d : Nat → Bool} {w : World} (h : RetJ N t cs ia is ix v d w) {k : Nat} (hk : k < N) : okF ia v d k := fun hda e => by
  obtain ⟨g, e1, e2, _, _⟩ := h.2.2.1 hda
  rw [e1] at e
  injection e with e
  injection e with e
  injection e with e
  omega
theorem RetJ.val {v : Nat → Value} {d : Nat → Bool} {w w2 : World} {i : Nat} {u : Value} (h : RetJ N t cs ia is ix v d w) (hd : d i = false) (hia : ia ≠ i) (his : is ≠ i) (hb : Below w.heap.size w w2)
    (hu : ∀ q ∈ cs, q.1 = i → q.2.p (fun k => okF ia v d k ∨ w.heap.size ≤ k) u w2) : RetJ N t cs ia is ix (upd v i u) (upd d i true) w2 := by
  obtain ⟨hN, h1, h2, h3⟩ := h
  have hbox : ∀ k, okF ia v d k ∨ w.heap.size ≤ k → okF ia (upd v i u) (upd d i true) k := by
    intro k hk
    rw [okF.other hia]
    rcases hk with hk | hk
    · exact hk
    · refine fun hda e => ?_
      obtain ⟨g, e1, _, e3, _⟩ := h2 hda
      rw [e1] at e
      injection e with e
      injection e with e
      injection e with e
      omega
  refine ⟨Nat.le_trans hN hb.size, fun q hq hdq => ?_, fun hda => ?_, fun hds => ?_⟩
  · by_cases hqi : q.1 = i
    · rw [hqi, upd_same]
      exact q.2.step (hu q hq hqi) (fun _ _ _ => rfl) (fun k hk _ => hbox k hk)
    · rw [upd_other _ _ hqi] at hdq ⊢
      exact q.2.step (h1 q hq hdq) (fun k _ hlt => hb.block k hlt) (fun k hk _ => hbox k (.inl hk))
  · rw [upd_other _ _ hia] at hda ⊢
    rw [upd_other _ _ his]
    obtain ⟨g, e1, e2, e3, e4⟩ := h2 hda
    refine ⟨g, e1, e2, Nat.lt_of_lt_of_le e3 hb.size, ?_⟩
    have e5 := blk_below e4 hb
    by_cases hx : d is = true
    · have hxx := (h3 hx).2
      have hxi : ix ≠ i := fun e => by rw [e, hd] at hxx; cases hxx
      rw [upd_other _ _ hxi]
      exact e5
    · rw [if_neg hx] at e5 ⊢
      exact e5
  · rw [upd_other _ _ his] at hds
    rw [upd_other _ _ hia]
    have := h3 hds
    refine ⟨this.1, ?_⟩
    by_cases hxi : ix = i
    · rw [hxi, upd_same]
    · rw [upd_other _ _ hxi]; exact this.2
theorem RetJ.alloc {v : Nat → Value} {d : Nat → Bool} {w : World} (h : RetJ N t cs ia is ix v d w) (hd : d ia = false) (his : is ≠ ia) (hix : ix ≠ ia) (hq : ∀ q ∈ cs, q.1 ≠ ia) :
    RetJ N t cs ia is ix (upd v ia (.pointer (some ⟨w.heap.size, 0, none⟩))) (upd d ia true) (w.alloc (.cells #[.int .i64 0, .slice none 0 0] t (0, 0))) := by
  obtain ⟨hN, h1, h2, h3⟩ := h
  have hn : ¬ d is = true := fun hc => by have := (h3 hc).1; rw [hd] at this; cases this
  refine ⟨by rw [World.size_alloc]; omega, fun q hqc hdq => ?_, fun _ => ?_, fun hds => ?_⟩
  · rw [upd_other _ _ (hq q hqc)] at hdq ⊢
    refine q.2.step (h1 q hqc hdq) (fun k _ hlt => (below_alloc (Below.refl _ _) _ : Below w.heap.size w _).block k hlt) (fun k hk hlt => fun _ e => ?_)
    rw [upd_same] at e
    injection e with e
    injection e with e
    injection e with e
    omega
  · rw [upd_same, upd_other _ _ his, if_neg hn]
    exact ⟨_, rfl, hN, by rw [World.size_alloc]; omega, heap_alloc_new _ _⟩
  · rw [upd_other _ _ his] at hds
    exact absurd hds hn
theorem RetJ.store {v : Nat → Value} {d : Nat → Bool} {w w' : World} {u : Value} {g : Nat} (h : RetJ N t cs ia is ix v d w) (hd : d is = false) (hia : ia ≠ is) (hix : ix ≠ is) (hq : ∀ q ∈ cs, q.1 ≠ is) (hda : d ia = true) (hdx : d ix = true)
    (hva : v ia = .pointer (some ⟨g, 0, none⟩)) (hw : w'.heap[g]? = some (.cells (cellsOf (v ix)) t (0, 0))) (hother : ∀ k, k ≠ g → w'.heap[k]? = w.heap[k]?) (hsz : w'.heap.size = w.heap.size) : RetJ N t cs ia is ix (upd v is u) (upd d is true) w' := by
  obtain ⟨hN, h1, h2, h3⟩ := h
  refine ⟨by omega, fun q hqc hdq => ?_, fun _ => ?_, fun _ => ?_⟩
  · rw [upd_other _ _ (hq q hqc)] at hdq ⊢
    exact q.2.step (h1 q hqc hdq) (fun k hk _ => hother k (okF.ne hk hda hva)) (fun k hk _ => (okF.other hia k).2 hk)
  · rw [upd_other _ _ hia, upd_same, if_pos rfl, upd_other _ _ hix]
    obtain ⟨g', e1, e2, e3, _⟩ := h2 hda
    rw [e1] at hva
    injection hva with hva
    injection hva with hva
    injection hva with hva
    subst hva
    exact ⟨g', e1, e2, by omega, hw⟩
  · rw [upd_other _ _ hia, upd_other _ _ hix]
    exact ⟨hda, hdx⟩
theorem RetJ.box {v : Nat → Value} {d : Nat → Bool} {w : World} {kd : Kd S30} {x : S30} {P : Nat → Prop} (h : RetJ N t cs ia is ix v d w) (hx : (ix, TermF kd x P) ∈ cs) (ha : d ia = true) (hs : d is = true) (hdx : d ix = true) :
    ∃ g A c, v ia = .pointer (some ⟨g, 0, none⟩) ∧ N ≤ g ∧ w.heap[g]? = some (.cells #[.int .i64 x.f0, .slice A x.f1.length c] t (0, 0)) ∧ x.f1.length ≤ c ∧ Kd.F kd w (fun k => P k ∧ k ≠ g) A x.f1.length x.f1 := by
  obtain ⟨hN, h1, h2, h3⟩ := h
  obtain ⟨g, e1, e2, _, e4⟩ := h2 ha
  obtain ⟨A, c, f1, f2, f3⟩ := h1 _ hx hdx
  rw [if_pos hs, show cellsOf (v ix) = _ from congrArg cellsOf f1] at e4
  exact ⟨g, A, c, e1, e2, e4, f2, Kd.F_mono f3 (fun k hk => ⟨hk.2, okF.ne hk.1 ha e1⟩)⟩
end
theorem F_old {α : Type} {d : Kd α} (hd : Kd.Heap d) {W0 W : World} {A : Option Addr} {n : Nat} {l : List α} (h : d.C W0 A n l) (hb : Below W0.heap.size W0 W) : Kd.F d W (fun k => k < W0.heap.size) A n l := fun W' hW => by
  refine Kd.Heap.C hd (fun k hk => ?_) h
  rw [hW k hk (Nat.lt_of_lt_of_le hk hb.size)]
  exact hb.block k hk
theorem at_F30 {w : World} {ok : Nat → Prop} {A : Option Addr} {n : Nat} {xs : List S30} (h : Kd.F k30 w ok A n xs) (i : Nat) (hi : i < xs.length) : ∃ ad A1 c1, A = some ad ∧ w.cell? (ad.add (i * 2)) = some (.int .i64 xs[i].f0) ∧ w.cell? ⟨(ad.add (i * 2)).block, (ad.add (i * 2)).off + 1, none⟩ = some (.slice A1 xs[i].f1.length c1) ∧ xs[i].f1.length ≤ c1 ∧ Kd.F k30 w ok A1 xs[i].f1.length xs[i].f1 := by
  obtain ⟨h1, h2, h3⟩ := Kd.F_rows h
  obtain ⟨ad, hA, hc⟩ := h3 (by omega)
  obtain ⟨c, hcl, hK, hcc⟩ := hc i xs[i] (List.getElem?_eq_getElem hi)
  obtain ⟨A1, c1, rfl, hl, hF⟩ := k30_openF hK
  refine ⟨ad, A1, c1, hA, ?_, ?_, hl, hF⟩
  · have := hcc 0 _ rfl
    exact this
  · have := hcc 1 _ rfl
    rw [show k30.sz = 2 from rfl] at this
    rw [← this]
    congr 1
    unfold Addr.add
    split <;> split <;> simp_all <;> omega
end Go.Proofs.Ytpfddihcikiofaa.P
end

section
namespace Go.Proofs.Ytpfddihcikiofaa.P
open Go.RowKit Go.Shelf Go.Proofs.YtpfddihcikiofaaW.PrintWords Go.Proofs.YtpfddihcikiofaaW.PrintLast Go.Proofs.YtpfddihcikiofaaW.PrintMore
set_option linter.unusedVariables false
set_option linter.unusedSimpArgs false
attribute [local go_sem] Oper.semAt_some
structure Keeps (W W' : World) (S : Nat → Prop) : Prop where
  os : W'.os = W.os
  tape : W'.tape = W.tape
  output : W'.output = W.output
  size : W.heap.size ≤ W'.heap.size
  block : ∀ k, k < W.heap.size → ¬ S k → W'.heap[k]? = W.heap[k]?
theorem Keeps.refl (W : World) (S : Nat → Prop) : Keeps W W S := ⟨rfl, rfl, rfl, Nat.le_refl _, fun _ _ _ => rfl⟩
theorem Keeps.of_below {W W' : World} (h : Below W.heap.size W W') (S : Nat → Prop) : Keeps W W' S := ⟨h.os, h.tape, h.output, h.size, fun k hk _ => h.block k hk⟩
theorem Keeps.trans {W W' W2 : World} {S S' : Nat → Prop} (h : Keeps W W' S) (k : Keeps W' W2 S') (hs : ∀ b, S' b → S b ∨ W.heap.size ≤ b) : Keeps W W2 S :=
  ⟨k.os.trans h.os, k.tape.trans h.tape, k.output.trans h.output, Nat.le_trans h.size k.size, fun b hb hn => (k.block b (Nat.lt_of_lt_of_le hb h.size) (fun h2 => (hs b h2).elim hn (by omega))).trans (h.block b hb hn)⟩
theorem Keeps.below {W W' W2 : World} {S : Nat → Prop} (h : Keeps W W' S) (k : Below W'.heap.size W' W2) : Keeps W W2 S := h.trans (Keeps.of_below k (fun _ => False)) (fun _ h => h.elim)
theorem Keeps.drewN (W : World) (S : Nat → Prop) (n : Nat) : Keeps W (W.drewN n) S := Keeps.of_below (pw_below_drewN (Below.refl _ _) n) S
theorem Keeps.mono {W W' : World} {S S' : Nat → Prop} (h : Keeps W W' S) (hs : ∀ k, S k → S' k) : Keeps W W' S' := ⟨h.os, h.tape, h.output, h.size, fun k hk hn => h.block k hk (fun h2 => hn (hs k h2))⟩
theorem Keeps.toBelow {W W' : World} {S : Nat → Prop} {B : Nat} (h : Keeps W W' S) (hB : B ≤ W.heap.size) (hs : ∀ b, S b → B ≤ b) : Below B W W' :=
  ⟨h.os, h.tape, h.output, h.size, fun k hk => h.block k (by omega) (fun h2 => by have := hs k h2; omega)⟩
theorem Keeps.blk {W W' : World} {S : Nat → Prop} (h : Keeps W W' S) {b : Nat} {o : Obj} (hb : W.heap[b]? = some o) (hn : ¬ S b) : W'.heap[b]? = some o := (h.block b (blk_lt hb) hn).trans hb
theorem Keeps.F {α : Type} {d : Kd α} {W W' : World} {S S' : Nat → Prop} {A : Option Addr} {n : Nat} {xs : List α} (h : Keeps W W' S) (hs : ∀ b, S' b → S b ∨ W.heap.size ≤ b) (hf : Kd.F d W (fun k => ¬ S k) A n xs) : Kd.F d W' (fun k => ¬ S' k) A n xs :=
  Kd.F_mono (Kd.F_step (Kd.F_bound hf) (fun k hk hlt => h.block k hlt hk.1)) (fun k hk h2 => (hs k h2).elim hk.1 (fun h3 => by have := hk.2; omega))
theorem wide_any (k : Nat) : Fence.wide.depth.isSome = true → 1 ≤ k := fun h => by cases h
theorem parts_neg (f : Int) (v : Value) (w : World) (hf : decide (f < 0) = true) : Calls Try.prog 74 #[.agg #[.int .i64 f, v]] w fun e w' => e = .returned (.slice none 0 0) ∧ w' = w.alloc (.cells #[.int .i64 f, v] 30) := by
  go_enter Try.func74, Try.ntmps74
  go_wp2
  go_ret
  exact ⟨rfl, rfl⟩
theorem parts_pos (f : Int) (A : Option Addr) (n c : Nat) (w : World) (hf : decide (f < 0) = false) : Calls Try.prog 74 #[.agg #[.int .i64 f, .slice A n c]] w fun e w' => e = .returned (.slice A n c) ∧ w' = w.alloc (.cells #[.int .i64 f, .slice A n c] 30) := by
  go_enter Try.func74, Try.ntmps74
  go_wp2
  go_ret
  exact ⟨rfl, rfl⟩
theorem clip_any (A : Option Addr) (n c : Nat) (w : World) (h : n ≤ c) (hn : n ≤ 9223372036854775807) : Calls Try.prog 109 #[.slice A n c] w fun e w' => e = .returned (.slice A n n) ∧ w' = w := by
  go_enter Try.func109, Try.ntmps109
  go_wp2
  go_ret
  exact ⟨rfl, rfl⟩
def Yields (l : Nat) (J : (Nat → Prop) → List (List Int × S30) → World → Prop) (N : Nat) : Prop :=
  ∀ (m : Nat) (S : Nat → Prop) (pre : List (List Int × S30)) (p : List Int) (s : S30) (A : Option Addr) (c : Nat) (As : Option Addr) (cs : Nat) (W : World), J S pre W → pre.length < N → p.length ≤ 1099511627776 →
    Kd.F (Kd.int .i64) W (fun k => ¬ S k) A p.length p → p.length ≤ c → Kd.F k30 W (fun k => ¬ S k) As s.f1.length s.f1 → s.f1.length ≤ cs →
    YieldAt Fence.wide m Try.prog l #[.slice A p.length c, .agg #[.int .i64 s.f0, .slice As s.f1.length cs]] W fun e W' => e = .returned (.bool true) ∧ ∃ S' : Nat → Prop, J S' (pre ++ [(p, s)]) W' ∧ Keeps W W' S ∧ ∀ k, S' k → S k ∨ W.heap.size ≤ k
def WalkPost (J : (Nat → Prop) → List (List Int × S30) → World → Prop) (S : Nat → Prop) (pre : List (List Int × S30)) (W : World) (e : Ending) (W' : World) : Prop :=
  e = .returned (.bool true) ∧ ∃ S' : Nat → Prop, J S' pre W' ∧ Keeps W W' S ∧ ∀ k, S' k → S k ∨ W.heap.size ≤ k
set_option maxRecDepth 100000 in
set_option maxHeartbeats 4000000 in
theorem walkIn_ (l N : Nat) (J : (Nat → Prop) → List (List Int × S30) → World → Prop) (hJb : ∀ S pre W, J S pre W → ∀ k, S k → k < W.heap.size)
    (hJs : ∀ S pre W W', J S pre W → Below W.heap.size W W' → J S pre W') (hY : Yields l J N) (t : S30) :
    ∀ (n : Nat) (S : Nat → Prop) (p : List Int) (A : Option Addr) (c : Nat) (As : Option Addr) (cs : Nat) (pre : List (List Int × S30)) (W : World), J S pre W →
      Kd.F (Kd.int .i64) W (fun k => ¬ S k) A p.length p → p.length ≤ c → Kd.F k30 W (fun k => ¬ S k) As t.f1.length t.f1 → t.f1.length ≤ cs → pre.length + (flatP p t).length ≤ N → p.length + (flatP p t).length ≤ 1099511627776 →
      CallsIn Fence.wide n Try.prog 104 #[.slice A p.length c, .agg #[.int .i64 t.f0, .slice As t.f1.length cs], .func (.yield l) #[] #[]] W (WalkPost J S (pre ++ flatP p t) W) := by
  induction t using S30.ind with
  | h f kids ih =>
  intro n S p A c As cs pre W hJ hp hpc ht htc hN hM
  dsimp only at ht htc ⊢
  have hbox : (W.alloc (.cells #[.int .i64 f, .slice As kids.length cs] 30)).heap[W.heap.size]? = some (.cells #[.int .i64 f, .slice As kids.length cs] 30 (0, 0)) := heap_alloc_new W _
  have hb1 : Below W.heap.size W (W.alloc (.cells #[.int .i64 f, .slice As kids.length cs] 30)) := below_alloc (Below.refl _ _) _
  obtain ⟨fn, tmps, assign, body, hy, hR⟩ := hY (n - 1) S pre p ⟨f, kids⟩ A c As cs _ (hJs _ _ _ _ hJ hb1) (by simp [flatP] at hN; omega) (by omega) (Kd.F_below hp hb1) hpc (Kd.F_below ht hb1) htc
  dsimp only at hy
  refine callsIn_of_wp Try.func104 rfl trivial ?_ rfl
  simp only [Try.ntmps104, List.size_toArray, List.length_cons, List.length_nil, Nat.reduceAdd, Nat.reduceSub, Array.replicate_succ, Array.replicate_zero, List.push_toArray, List.append_toArray, List.nil_append, List.cons_append]
  gi_wp2
  refine ⟨wide_any _, ?_⟩
  refine hR.mono ?_
  clear hR hy
  rintro e W2 ⟨rfl, S2, hJ2, hk2, hs2⟩
  have hS : ¬ S W.heap.size := fun h => by have := hJb _ _ _ hJ _ h; omega
  have hbox2 := hk2.blk hbox hS
  have hp2 := hk2.F hs2 (Kd.F_below hp hb1)
  have ht2 := hk2.F hs2 (Kd.F_below ht hb1)
  have hK2 := (Keeps.of_below hb1 S).trans hk2 (fun b h => .inl h)
  have hs2' : ∀ k, S2 k → S k ∨ W.heap.size ≤ k := fun k h => (hs2 k h).imp_right (fun h => by simp at h; omega)
  clear hk2 hs2 hbox hb1 hS hp ht hJ
  have hc0 : W2.cell? ⟨W.heap.size, 0, none⟩ = some (.int .i64 f) := (blk_cell hbox2 0).trans rfl
  have hc1 : W2.cell? ⟨W.heap.size, 1, none⟩ = some (.slice As kids.length cs) := (blk_cell hbox2 1).trans rfl
  obtain ⟨ks, Ak, ck, hparts, hks, hflat, hmem⟩ : ∃ (ks : List S30) (Ak : Option Addr) (ck : Nat), (∀ w : World, Calls Try.prog 74 #[.agg #[.int .i64 f, .slice As kids.length cs]] w fun e w' => e = .returned (.slice Ak ks.length ck) ∧ w' = w.alloc (.cells #[.int .i64 f, .slice As kids.length cs] 30)) ∧
      Kd.F k30 W2 (fun k => ¬ S2 k) Ak ks.length ks ∧ flatP p ⟨f, kids⟩ = (p, ⟨f, kids⟩) :: flatPs p 0 ks ∧ ∀ x ∈ ks, x ∈ kids := by
    by_cases hf : f < 0
    · exact ⟨[], none, 0, fun w => parts_neg f _ w (decide_eq_true hf), Kd.F_nil _ _ _, by simp [flatP, hf, flatPs], by simp⟩
    · exact ⟨kids, As, cs, fun w => parts_pos f _ _ _ w (decide_eq_false hf), ht2, by simp [flatP, hf], fun x h => h⟩
  have hfl := Aside0.mk hflat
  clear hflat ht2 htc
  have hpp := Aside0.mk hparts
  clear hparts
  have hpz := Aside0.mk hp2
  have hkz := Aside0.mk hks
  have hKz := Aside0.mk hK2
  have hJz := Aside0.mk hJ2
  have hNz := Aside0.mk hN
  have hMz := Aside0.mk hM
  clear hp2 hks hK2 hJ2 hN hM
  gi_wp2_with (refine ⟨trivial, ?_⟩; (try refine ⟨wide_any _, ?_⟩); gi_at_call 74; refine (callsIn_wide.2 (hpp.out _)).mono ?_; rintro e w' ⟨rfl, rfl⟩)
  have hb3 : Below W2.heap.size W2 (W2.alloc (.cells #[.int .i64 f, .slice As kids.length cs] 30)) := below_alloc (Below.refl _ _) _
  have hkl : ks.length ≤ 9223372036854775807 := Kd.F_max hkz.out
  gi_loopw [17] (fun i wr => ∃ (k : Nat) (S3 : Nat → Prop), k ≤ ks.length ∧ i = .int .i64 k ∧ Aside0 (J S3 (pre ++ (p, ⟨f, kids⟩) :: flatPs p 0 (ks.take k)) wr) ∧ Aside0 (Keeps W wr S) ∧ Aside0 (∀ k, S3 k → S k ∨ W.heap.size ≤ k) ∧ Aside0 (Kd.F (Kd.int .i64) wr (fun k => ¬ S3 k) A p.length p) ∧ Aside0 (Kd.F k30 wr (fun k => ¬ S3 k) Ak ks.length ks))
    (fun i wr => ks.length - (intOf i).toNat)
  case atStart =>
    exact ⟨0, S2, Nat.zero_le _, rfl, ⟨by simpa [flatPs] using hJs _ _ _ _ hJz.out hb3⟩, ⟨hKz.out.below hb3⟩, ⟨hs2'⟩, ⟨Kd.F_below hpz.out hb3⟩, ⟨Kd.F_below hkz.out hb3⟩⟩
  case round =>
    obtain ⟨k, S3, hk, rfl, hJ3, hK3, hs3, hp3, hk3⟩ := hrel
    clear hJz hKz hpz hkz hb3
    by_cases hlt : k < ks.length
    · obtain ⟨ad, cc, hAk, hcl, hFK, hcell, hadok⟩ := Kd.F_get hk3.out z30 (k : Int) (by omega) (by omega)
      simp only [Int.toNat_natCast] at hFK hcell
      have hx : ks.getD k z30 = ks[k] := by simp [List.getD_eq_getElem?_getD, hlt]
      rw [hx] at hFK
      obtain ⟨A1, c1, rfl, hl1, hF1⟩ := k30_openF hFK
      have hx0 : wr.cell? (ad.add (k * 2)) = some (.int .i64 ks[k].f0) := hcell 0 _ rfl
      have hx1 : wr.cell? ⟨(ad.add (k * 2)).block, (ad.add (k * 2)).off + 1, none⟩ = some (.slice A1 ks[k].f1.length c1) := by rw [← add_field _ _ 1 (by omega)]; exact hcell 1 _ rfl
      have hxe := hmem ks[k] (List.getElem_mem hlt)
      have hF1z := Aside0.mk hF1
      have hl1z := Aside0.mk hl1
      clear hFK hcell hadok hx hF1 hl1 hcl
      subst hAk
      generalize hxk : ks[k] = x at hx0 hx1 hxe hF1z hl1z
      have hxz := Aside0.mk hxk
      clear hxk
      gi_wp2
      refine wpIn_wide.2 ?_
      have hb4 : Below wr.heap.size wr (wr.alloc (.cells #[.int .i64 x.f0, .slice A1 x.f1.length c1] 30)) := below_alloc (Below.refl _ _) _
      have hB4 : (wr.alloc (.cells #[.int .i64 x.f0, .slice A1 x.f1.length c1] 30)).heap[wr.heap.size]? = some (.cells #[.int .i64 x.f0, .slice A1 x.f1.length c1] 30 (0, 0)) := heap_alloc_new _ _
      have hb5 := hb4.drew
      have hB5 := blk_drew hB4
      refine start_ (n := 9) (S := fun w' => w'.cell? ⟨wr.heap.size, 0, none⟩ = some (.int .i64 x.f0) ∧ w'.cell? ⟨wr.heap.size, 1, none⟩ = some (.slice A1 x.f1.length c1)) (ds := [7]) #[false, false, false, false, false, false, false, false, false] (by kernel_rfl) rfl rfl ⟨(blk_cell hB5 0).trans rfl, (blk_cell hB5 1).trans rfl⟩ (fun hHeld => ?_)
      generalize World.drew (wr.alloc (.cells #[.int .i64 x.f0, .slice A1 x.f1.length c1] 30)) = w5 at hb5 hB5 hHeld ⊢
      clear hb4 hB4 hx0 hx1
      refine pure_ (i := 0) (N := some 22) (v := ?_) (a' := ?_) #[true, false, false, false, false, false, false, false, false] rfl rfl (by kernel_rfl) (fun _ _ _ h => h) (Or.inl ⟨by rfl, ?_⟩) ?_ ?_
      rotate_left
      · intro w'
        go_simp
        with_reducible rfl
      rotate_left
      · simp only [Act.put, List.setIfInBounds_toArray, List.set_cons_zero, List.set_cons_succ, i64_w, i32_w]
        rfl
      refine pure_ (i := 2) (N := some 24) (v := ?_) (a' := ?_) #[true, false, true, false, false, false, false, false, false] rfl rfl (by kernel_rfl) (fun _ _ _ h => h) (Or.inl ⟨by rfl, ?_⟩) ?_ ?_
      rotate_left
      · intro w'
        go_simp
        with_reducible rfl
      rotate_left
      · simp only [Act.put, List.setIfInBounds_toArray, List.set_cons_zero, List.set_cons_succ, i64_w, i32_w]
        rfl
      refine pure_ (i := 6) (N := some 28) (v := ?_) (a' := ?_) #[true, false, true, false, false, false, true, false, false] rfl rfl (by kernel_rfl) (fun _ _ _ h => h) (Or.inl ⟨by rfl, ?_⟩) ?_ ?_
      rotate_left
      · intro w'
        go_simp
        with_reducible rfl
      rotate_left
      · simp only [Act.put, List.setIfInBounds_toArray, List.set_cons_zero, List.set_cons_succ, i64_w, i32_w]
        rfl
      refine take_ (i := 5) (N := some 27) (v := ?_) (a' := ?_) #[true, false, true, false, false, true, true, false, false] rfl rfl (by kernel_rfl) (fun _ _ _ h => h) (Or.inl ⟨by rfl, ?_⟩) hHeld ?_ ?_
      rotate_left
      · rintro w' ⟨s0, s1⟩
        go_simp
        with_reducible rfl
      rotate_left
      · simp only [Act.put, List.setIfInBounds_toArray, List.set_cons_zero, List.set_cons_succ, i64_w, i32_w]
        rfl
      have hpl : p.length < 1099511627776 := by
        have h1 := hMz.out
        rw [hfl.out] at h1
        simp at h1
        omega
      have hflk := flatPs_take p ks k hlt
      rw [hxz.out] at hflk
      have hfle := flatPs_take_le p ks (k + 1)
      have hlen : (flatP (p ++ [(k : Int)]) x).length + (flatPs p 0 (ks.take k)).length + 1 ≤ (flatP p ⟨f, kids⟩).length := by
        rw [hfl.out]
        rw [hflk] at hfle
        simp at hfle ⊢
        omega
      have hlz := Aside0.mk hlen
      have hflkz := Aside0.mk hflk
      clear hlen hflk hfle
      refine join_ (σ := Unit) 3 #[true, true, true, true, false, true, true, false, false] (fun _ => [(23, .slice A p.length p.length), (25, .slice (some ⟨w5.heap.size, 0, none⟩) 1 1)]) (fun _ w' => w' = w5.alloc (.cells #[.int .i64 (k : Int)] 3)) ?cont ?two
      case cont =>
        rintro _ w6 rfl
        refine norm_ (a' := ?_) ?_ ?_
        rotate_left
        · simp only [putAll, Act.put, List.setIfInBounds_toArray, List.set_cons_zero, List.set_cons_succ, i64_w, i32_w]
          rfl
        refine one_ (i := 4) (N := some 26) #[true, true, true, true, true, true, true, false, false] rfl rfl (by kernel_rfl) (by decide) (fun K hK => ?_)
        obtain ⟨i0, hi, hz0, hz1, hz2⟩ := info_parts info3
        have hB6 := blk_alloc hB5 (.cells #[.int .i64 (k : Int)] 3)
        have hb6 : Below wr.heap.size wr (w5.alloc (.cells #[.int .i64 (k : Int)] 3)) := hb5.alloc hb5.size _
        have hN6 : (w5.alloc (.cells #[.int .i64 (k : Int)] 3)).heap[w5.heap.size]? = some (.cells #[.int .i64 (k : Int)] 3 (0, 0)) := heap_alloc_new _ _
        have hsz6 : w5.heap.size < (w5.alloc (.cells #[.int .i64 (k : Int)] 3)).heap.size := by simp
        generalize w5.alloc (.cells #[.int .i64 (k : Int)] 3) = w6 at hB6 hb6 hN6 hsz6 ⊢
        have hC := Kd.F_now (Kd.F_below hp3.out hb6)
        refine step_append_grows rfl (.tmp 23) (.tmp 25) 25 rfl 3 i0 (.int .i64 0) 1 8 Try.underlying25 hi hz0 hz1 hz2 rfl (by decide) A p.length p.length (p.map (.int .i64)) rfl ?hnone (by simp) ?holds ⟨w5.heap.size, 0, none⟩ 1 1 [.int .i64 (k : Int)] rfl rfl ?hnews (by intro u hu; simp at hu; subst hu; rfl) (by omega) (by simp only [maxLen]; omega) (by omega) ?_
        case hnone =>
          intro hA
          have h0 : p.length = 0 := by
            rcases Nat.eq_zero_or_pos p.length with h | h
            · exact h
            · obtain ⟨ad', e', _⟩ := hC.2.2 h
              rw [hA] at e'
              cases e'
          exact ⟨h0, h0⟩
        case holds =>
          intro b hb j u hu
          have hj : j < p.length := by
            have := (List.getElem?_eq_some_iff.1 hu).1
            simpa using this
          obtain ⟨ad', e', hcj⟩ := Kd.at_int hC (j : Int) (by omega) (by omega)
          rw [hb] at e'
          cases e'
          simp only [Int.toNat_natCast, rd] at hcj
          rw [hcj]
          simp only [List.getElem?_map, List.getElem?_eq_getElem hj, Option.map_some] at hu
          simpa [List.getD_eq_getElem?_getD, List.getElem?_eq_getElem hj] using hu
        case hnews =>
          intro j u hu
          cases j with
          | zero =>
            simp at hu
            subst hu
            rw [add_plain]
            exact (blk_cell hN6 0).trans rfl
          | succ j => simp at hu
        intro v1 w7 hown hg
        have hR : (Kd.int .i64).R 3 w7 w6.heap.size (fun b => w6.heap.size ≤ b) v1 (p ++ [(k : Int)]) := Kd.R_of_own (by simpa [encs] using hown) (fun b hb => own_base hown b hb)
        obtain ⟨A2, c2, hv, hl2, _⟩ := Kd.R_reads hR
        subst hv
        have hF2 := Kd.R_F hR
        have hb7 : Below wr.heap.size wr w7 := hb6.grown hg hb6.size (by simp)
        have hB7 := blk_grown hB6 hg (by simp)
        have hsz7 := hb6.size
        have hJ7 := hJs _ _ _ _ hJ3.out hb7
        have hF2' : Kd.F (Kd.int .i64) w7 (fun b => ¬ S3 b) A2 (p ++ [(k : Int)]).length (p ++ [(k : Int)]) := Kd.F_mono hF2 (fun b hb h => by have := hJb _ _ _ hJ3.out b h; omega)
        have hFx := Kd.F_below hF1z.out hb7
        have hFp7 := Kd.F_below hp3.out hb7
        have hFk7 := Kd.F_below hk3.out hb7
        have hK7 := hK3.out.below hb7
        clear hR hF2 hown hC hB6 hb6 hN6 hg hHeld hB5 hb5
        refine hK.out _ _ ⟨(blk_cell hB7 0).trans rfl, (blk_cell hB7 1).trans rfl⟩ (fun hHeld => ?_)
        clear hK K
        refine norm_ (a' := ?_) ?_ ?_
        rotate_left
        · show Act.put _ (some 26) _ = _
          simp only [Act.put, List.setIfInBounds_toArray, List.set_cons_zero, List.set_cons_succ, i64_w, i32_w]
          rfl
        refine last_ (i := 7) (N := some 29) #[true, true, true, true, true, true, true, true, false] rfl rfl (by kernel_rfl) (by decide) (fun K hK => ?_)
        refine goes_ Try.func104 (by kernel_rfl) rfl #[.slice A2 (p ++ [(k : Int)]).length c2, .agg #[.int .i64 x.f0, .slice A1 x.f1.length c1], .func (.yield l) #[] #[]] (by rfl) rfl rfl (by (try simp only [List.map_toArray, List.map_cons, List.map_nil]); first | done | rfl) ?_
        refine (callsIn_wide.1 (ih x hxe 0 S3 (p ++ [(k : Int)]) A2 c2 A1 c1 _ w7 hJ7 hF2' hl2 hFx hl1z.out ?_ ?_)).mono ?_
        · have h1 := hlz.out
          have h2 := hNz.out
          simp only [List.length_append, List.length_cons]
          omega
        · have h1 := hlz.out
          have h2 := hMz.out
          simp only [List.length_append, List.length_cons, List.length_nil]
          omega
        rintro e w8 ⟨rfl, S4, hJ4, hK4, hs4⟩
        refine ⟨_, rfl, ?_⟩
        refine hK.out _ _ ?_
        clear hK K
        refine norm_ (a' := ?_) ?_ ?_
        rotate_left
        · show Act.put _ (some 29) _ = _
          simp only [Act.put, List.setIfInBounds_toArray, List.set_cons_zero, List.set_cons_succ, i64_w, i32_w]
          rfl
        refine pure_ (i := 8) (N := some 30) (v := ?_) (a' := ?_) #[true, true, true, true, true, true, true, true, true] rfl rfl (by kernel_rfl) (fun _ _ _ h => h) (Or.inl ⟨by rfl, ?_⟩) ?_ ?_
        rotate_left
        · intro w'
          go_simp
          with_reducible rfl
        rotate_left
        · simp only [Act.put, List.setIfInBounds_toArray, List.set_cons_zero, List.set_cons_succ, i64_w, i32_w]
          rfl
        refine done_ (by kernel_rfl) ?_
        have hFp8 := Aside0.mk (hK4.F hs4 hFp7)
        have hFk8 := Aside0.mk (hK4.F hs4 hFk7)
        have hK8 := Aside0.mk (hK7.trans hK4 hs3.out)
        have hs8 : Aside0 (∀ b, S4 b → S b ∨ W.heap.size ≤ b) := ⟨fun b hb => (hs4 b hb).elim (hs3.out b) (fun h => .inr (by have h1 := hK7.size; omega))⟩
        have hJ8 : Aside0 (J S4 (pre ++ (p, ⟨f, kids⟩) :: flatPs p 0 (ks.take (k + 1))) w8) := ⟨by rw [hflkz.out]; simpa [List.append_assoc] using hJ4⟩
        clear hK4 hs4 hFp7 hFk7 hK7 hs3 hJ4 hJ7 hFx hF2' hB7 hb7 hHeld
        gi_wp2
        go_roundw
        case rel => exact ⟨k + 1, S4, by omega, by go_num, hJ8, hK8, hs8, hFp8, hFk8⟩
        case measure => simp [intOf]; omega
      intro hcont
      refine two_ (i := 1) (j := 3) (Ni := some 23) (Nj := some 25) #[true, true, true, false, false, true, true, false, false] #[true, false, true, true, false, true, true, false, false] rfl rfl rfl rfl (by kernel_rfl) (by decide) (by decide) (fun K hK => ?_) (fun K hK => ?_)
      · refine goes_ Try.func109 (by kernel_rfl) rfl #[.slice A p.length c] (by rfl) rfl rfl (by (try simp only [List.map_toArray, List.map_cons, List.map_nil]); first | done | rfl) ?_
        refine (clip_any A p.length c _ hpc (by omega)).mono ?_
        rintro e w6 ⟨rfl, rfl⟩
        refine ⟨_, rfl, ?_⟩
        refine hK.out _ _ hHeld (fun hHeld => ?_)
        clear hK K
        refine norm_ (a' := ?_) ?_ ?_
        rotate_left
        · show Act.put _ (some 23) _ = _
          simp only [Act.put, List.setIfInBounds_toArray, List.set_cons_zero, List.set_cons_succ, i64_w, i32_w]
          rfl
        refine one_ (i := 3) (N := some 25) #[true, true, true, true, false, true, true, false, false] rfl rfl (by kernel_rfl) (by decide) (fun K hK => ?_)
        refine value_ (w1 := ?_) (v := ?_) (by rfl) rfl ?_ ?_
        rotate_left 2
        · go_simp
          constructor
          · rfl
          · rfl
        refine hK.out _ _ ⟨(blk_cell (blk_alloc hB5 _) 0).trans rfl, (blk_cell (blk_alloc hB5 _) 1).trans rfl⟩ (fun hHeld => ?_)
        clear hK K
        refine norm_ (a' := ?_) ?_ ?_
        rotate_left
        · show Act.put _ (some 25) _ = _
          simp only [Act.put, List.setIfInBounds_toArray, List.set_cons_zero, List.set_cons_succ, i64_w, i32_w]
          rfl
        have h := hcont () _ rfl
        simp only [putAll, Act.put, List.setIfInBounds_toArray, List.set_cons_zero, List.set_cons_succ, i64_w, i32_w] at h
        exact h
      · refine value_ (w1 := ?_) (v := ?_) (by rfl) rfl ?_ ?_
        rotate_left 2
        · go_simp
          constructor
          · rfl
          · rfl
        refine hK.out _ _ ⟨(blk_cell (blk_alloc hB5 _) 0).trans rfl, (blk_cell (blk_alloc hB5 _) 1).trans rfl⟩ (fun hHeld => ?_)
        clear hK K
        refine norm_ (a' := ?_) ?_ ?_
        rotate_left
        · show Act.put _ (some 25) _ = _
          simp only [Act.put, List.setIfInBounds_toArray, List.set_cons_zero, List.set_cons_succ, i64_w, i32_w]
          rfl
        refine one_ (i := 1) (N := some 23) #[true, true, true, true, false, true, true, false, false] rfl rfl (by kernel_rfl) (by decide) (fun K hK => ?_)
        refine goes_ Try.func109 (by kernel_rfl) rfl #[.slice A p.length c] (by rfl) rfl rfl (by (try simp only [List.map_toArray, List.map_cons, List.map_nil]); first | done | rfl) ?_
        refine (clip_any A p.length c _ hpc (by omega)).mono ?_
        rintro e w6 ⟨rfl, rfl⟩
        refine ⟨_, rfl, ?_⟩
        refine hK.out _ _ hHeld (fun hHeld => ?_)
        clear hK K
        refine norm_ (a' := ?_) ?_ ?_
        rotate_left
        · show Act.put _ (some 23) _ = _
          simp only [Act.put, List.setIfInBounds_toArray, List.set_cons_zero, List.set_cons_succ, i64_w, i32_w]
          rfl
        have h := hcont () _ rfl
        simp only [putAll, Act.put, List.setIfInBounds_toArray, List.set_cons_zero, List.set_cons_succ, i64_w, i32_w] at h
        exact h
    · gi_wp2
      go_ret
      exact ⟨rfl, S3, by rw [hfl.out]; have h := hJ3.out; rwa [List.take_of_length_le (by omega)] at h, hK3.out, hs3.out⟩
end Go.Proofs.Ytpfddihcikiofaa.P
end

section
namespace Go.Proofs.Ytpfddihcikiofaa.P
open Go.RowKit Go.Shelf Go.Proofs.YtpfddihcikiofaaW.PrintWords Go.Proofs.YtpfddihcikiofaaW.PrintLast Go.Proofs.YtpfddihcikiofaaW.PrintMore
set_option linter.unusedVariables false
set_option linter.unusedSimpArgs false
attribute [local go_sem] Oper.semAt_some
set_option maxRecDepth 100000 in
set_option maxHeartbeats 1000000 in
theorem all1_in (l N B : Nat) (J : (Nat → Prop) → List (List Int × S30) → World → Prop) (hJb : ∀ S pre W, J S pre W → ∀ k, S k → k < W.heap.size)
    (hJs : ∀ S pre W W', J S pre W → Below W.heap.size W W' → J S pre W') (hY : Yields l J N) (t : S30) (n : Nat) (S : Nat → Prop) (As : Option Addr) (cs : Nat) (W : World) (hJ : J S [] W)
    (hB : W.heap[B]? = some (.cells #[.int .i64 t.f0, .slice As t.f1.length cs] 30 (0, 0))) (ht : Kd.F k30 W (fun k => ¬ S k) As t.f1.length t.f1) (hc : t.f1.length ≤ cs)
    (hN : (flatP [] t).length ≤ N) (hM : N ≤ 1099511627776) :
    CallsIn Fence.wide n Try.prog 103 #[.func (.yield l) #[] #[], .pointer (some ⟨B, 0, none⟩)] W fun e W' => (∃ v, e = .returned v) ∧ ∃ S' : Nat → Prop, J S' (flatP [] t) W' ∧ Keeps W W' S ∧ ∀ k, S' k → S k ∨ W.heap.size ≤ k := by
  have hw := callsIn_wide.1 (walkIn_ l N J hJb hJs hY t 0 S [] none 0 As cs [] W hJ (Kd.F_nil _ _ _) (Nat.le_refl _) ht hc (by simpa using hN) (by simp; omega))
  have hc0 : W.cell? ⟨B, 0, none⟩ = some (.int .i64 t.f0) := (blk_cell hB 0).trans rfl
  have hc1 : W.cell? ⟨B, 1, none⟩ = some (.slice As t.f1.length cs) := (blk_cell hB 1).trans rfl
  refine callsIn_wide.2 ?_
  go_enter Try.func103, Try.ntmps103
  go_wp2_with (go_at_call 104; refine hw.mono ?_; rintro e W' ⟨rfl, S', h1, h2, h3⟩)
  go_end0
  exact ⟨⟨_, rfl⟩, S', by simpa using h1, h2, h3⟩
theorem all_any (f : Int) (v : Value) (w : World) : Calls Try.prog 72 #[.agg #[.int .i64 f, v]] w fun e w' => e = .returned (.func (.func 103) #[] #[.pointer (some ⟨w.heap.size, 0, none⟩)]) ∧ w' = w.alloc (.cells #[.int .i64 f, v] 30) := by
  go_enter Try.func72, Try.ntmps72
  go_wp2
  go_ret
  exact ⟨rfl, rfl⟩
theorem Keeps.setCell (W : World) (a : Addr) (v : Value) : Keeps W (W.setCell a v) (fun k => k = a.block) := ⟨rfl, rfl, rfl, by simp [World.setCell], fun k _ hn => Below.heap_setCell _ _ _ _ hn⟩
theorem below_put {B : Nat} {w W : World} (h : Below B w W) (hB : B ≤ W.heap.size) {D : Nat} (hD : B ≤ D) (o : Obj) : Below B w (W.putObj D o) := h.grown (grownBy_putObj' W D o) hB (fun k e => by cases e; exact hD)
def bodyEnd (I : (Nat → Prop) → List (List Int × S30) → World → Prop) (S : Nat → Prop) (n0 : Nat) (pre : List (List Int × S30)) (W : World) : Exit → Act → World → Prop
  | .normal, _, W' => ∃ S' : Nat → Prop, I S' pre W' ∧ Keeps W W' S ∧ ∀ k, S' k → S k ∨ n0 ≤ k
  | .ret, _, _ => False
  | .exit _, _, _ => False
  | .goto _, _, _ => False
  | .panic _, _, _ => False
  | .outgrown, _, _ => False
set_option maxRecDepth 100000 in
set_option maxHeartbeats 1000000 in
theorem range_all {g : Operand} {i j : Tmp} {assign body : Code} {Q : Exit → Act → World → Prop} {a : Act} {w : World} {n B : Nat}
    (hg : a.eval g = .func (.func 103) #[] #[.pointer (some ⟨B, 0, none⟩)])
    (t : S30) (S : Nat → Prop) (As : Option Addr) (cs : Nat) (hB : w.heap[B]? = some (.cells #[.int .i64 t.f0, .slice As t.f1.length cs] 30 (0, 0))) (ht : Kd.F k30 w (fun k => ¬ S k) As t.f1.length t.f1) (hc : t.f1.length ≤ cs)
    (hM : (flatP [] t).length ≤ 1099511627776)
    (I : (Nat → Prop) → List (List Int × S30) → World → Prop)
    (hIc : ∀ S pre W, I S pre W → ∀ k, S k → ∃ o : Obj, W.heap[k]? = some o ∧ o.isCells = true)
    (hIs : ∀ S pre (W W' : World), I S pre W → W.heap.size ≤ W'.heap.size → (∀ k, S k → k < W.heap.size → W'.heap[k]? = W.heap[k]?) → I S pre W')
    (h0 : I S [] w)
    (Ax : (Nat → Prop) → Nat → List Int → S30 → Option Addr → Nat → Option Addr → Nat → Act → World → Prop)
    (hAx : ∀ S n0 p s A c As cs a₁ (W W' : World), Ax S n0 p s A c As cs a₁ W → W.heap.size ≤ W'.heap.size → (∀ k, n0 ≤ k → k < W.heap.size → W'.heap[k]? = W.heap[k]?) → Ax S n0 p s A c As cs a₁ W')
    (hassign : ∀ (l m : Nat) (S : Nat → Prop) (p : List Int) (s : S30) (A : Option Addr) (c : Nat) (As : Option Addr) (cs : Nat) (W : World) (K : Act → World → Prop),
      (∀ a₁ W₁, Below W.heap.size W W₁ → Ax S W.heap.size p s A c As cs a₁ W₁ → K a₁ W₁) →
      assign.wpIn (Fence.wide.inRound l) m Try.prog (Exit.then K (fun _ _ _ => False)) { tmps := (a.tmps.setIfInBounds i (.slice A p.length c)).setIfInBounds j (.agg #[.int .i64 s.f0, .slice As s.f1.length cs]), defers := [] } W)
    (hbody : ∀ (l m : Nat) (S : Nat → Prop) (n0 : Nat) (pre : List (List Int × S30)) (p : List Int) (s : S30) (A : Option Addr) (c : Nat) (As : Option Addr) (cs : Nat) (a₁ : Act) (W : World), I S pre W → (∀ k, S k → k < n0) → n0 ≤ W.heap.size → pre.length < (flatP [] t).length → p.length ≤ 1099511627776 →
      Kd.F (Kd.int .i64) W (fun k => ¬ S k) A p.length p → p.length ≤ c → Kd.F k30 W (fun k => ¬ S k) As s.f1.length s.f1 → s.f1.length ≤ cs → Ax S n0 p s A c As cs a₁ W →
      body.wpIn (Fence.wide.inRound l) m Try.prog (bodyEnd I S n0 (pre ++ [(p, s)]) W) a₁ W)
    (hdone : ∀ (D : Nat) (S' : Nat → Prop) (W' : World), I S' (flatP [] t) W' → Keeps w W' S → (∀ k, S' k → S k ∨ w.heap.size ≤ k) → W'.heap[D]? = some (.deferred (some [])) → w.heap.size ≤ D → Q .normal { a with defers := { target := .collected D, args := #[] } :: a.defers } W') :
    (Code.rangeFunc g #[i, j] assign body).wpIn Fence.wide n Try.prog Q a w := by
  refine wpIn_rangeFunc ?_
  intro fn hfn
  rw [show Fence.wide.round = none from rfl]
  obtain ⟨rec, hrec⟩ : ∃ rec : LoopState → Option Code → Loop, rec = fun st pe => { state := st, pending := pe, fn, tmps := a.tmps, params := #[i, j], assign, body, defers := w.heap.size } := ⟨_, rfl⟩
  obtain ⟨W1, hW1⟩ : ∃ W1, (w.alloc (.deferred (some []))).alloc (.loop (rec .ready none)) = W1 := ⟨_, rfl⟩
  have hL1 : W1.heap[w.heap.size + 1]? = some (.loop (rec .ready none)) := by
    rw [← hW1]; have := World.alloc_heap_new (w.alloc (.deferred (some []))) (.loop (rec .ready none)); rwa [World.size_alloc] at this
  have hK1 : W1.heap[w.heap.size]? = some (.deferred (some [])) := by
    rw [← hW1]; exact (Below.heap_alloc _ _ _ (by simp)).trans (World.alloc_heap_new w _)
  have hb1 : Below w.heap.size w W1 := by
    rw [← hW1]; exact ((Below.refl _ w).alloc (Nat.le_refl _) _).alloc (by simp) _
  have hI1 : I S [] W1 := hIs _ _ _ _ h0 hb1.size (fun k _ hk => hb1.block k hk)
  refine ⟨w.heap.size + 1, [{ target := .collected w.heap.size, args := #[] }], W1, { target := .fn (.func 103) #[.pointer (some ⟨B, 0, none⟩)], args := #[.func (.yield (w.heap.size + 1)) #[] #[]] }, W1, 103,
    #[.func (.yield (w.heap.size + 1)) #[] #[]] ++ #[.pointer (some ⟨B, 0, none⟩)], W1, ?_, ?_, fun _ _ => trivial, ?_, fun h => (by cases h), ?_⟩
  · rw [← hW1, hrec]; exact run_enterLoop_outer _ _ _ _ _
  · simp only [resolve, hg]
    simp [go_sem]
  · have eg := enters_ (P := Try.prog) Try.func103 (by kernel_rfl) rfl
    simp [invoke, go_sem, eg]
  · have hcellne : ∀ {S pre W k}, I S pre W → S k → ∀ {o : Obj}, W.heap[k]? = some o → o.isCells = true := fun {S pre W k} hI hk {o} ho => by
      obtain ⟨o', ho', hc'⟩ := hIc _ _ _ hI k hk
      rw [ho] at ho'; cases ho'; exact hc'
    have hlt : ∀ {S pre W k}, I S pre W → S k → k < W.heap.size := fun {S pre W k} hI hk => by
      obtain ⟨o', ho', _⟩ := hIc _ _ _ hI k hk
      exact blk_lt ho'
    refine (all1_in (w.heap.size + 1) (flatP [] t).length B
      (fun SJ pre W => ∃ S : Nat → Prop, SJ = (fun k => S k ∨ k = w.heap.size + 1 ∨ k = w.heap.size) ∧ I S pre W ∧ W.heap[w.heap.size + 1]? = some (.loop (rec .ready none)) ∧ W.heap[w.heap.size]? = some (.deferred (some [])))
      ?_
      (fun SJ pre W W' ⟨S, e, h1, h2, h3⟩ hb => ⟨S, e, hIs _ _ _ _ h1 hb.size (fun k _ hk => hb.block k hk), blk_below h2 hb, blk_below h3 hb⟩)
      ?_ t _ (fun k => S k ∨ k = w.heap.size + 1 ∨ k = w.heap.size) As cs W1 ⟨S, rfl, hI1, hL1, hK1⟩ (blk_below hB hb1) ?_ hc (Nat.le_refl _) hM).mono ?_
    · rintro SJ pre W ⟨S, rfl, h1, h2, h3⟩ k (hk | rfl | rfl)
      · exact hlt h1 hk
      · exact blk_lt h2
      · exact blk_lt h3
    ·
      rintro m SJ pre p s A c As2 cs2 W ⟨S2, rfl, hi, hl, hk⟩ hlen hpm hp hpc hs hsc
      have hy := run_yield (P := Try.prog) (args := #[.slice A p.length c, .agg #[.int .i64 s.f0, .slice As2 s.f1.length cs2]]) hl (by rw [hrec]; rfl)
      rw [hrec] at hy
      have hz : ∀ (u v : Value), (#[i, j].zip #[u, v]).foldl (fun (t : Array Value) (x : Tmp × Value) => t.setIfInBounds x.1 x.2) a.tmps = (a.tmps.setIfInBounds i u).setIfInBounds j v := fun u v => by simp
      rw [show ∀ (u v : Value), (#[i, j].zip #[u, v]).foldl (fun (t : Array Value) (x : Tmp × Value) => t.setIfInBounds x.1 x.2) a.tmps = (a.tmps.setIfInBounds i u).setIfInBounds j v from hz] at hy
      refine ⟨fn, _, assign, body, hy, roundIn_of_wpIn trivial (hassign _ m S2 p s A c As2 cs2 W _ (fun a₁ W₁ hb hax => ⟨_, run_beginRound (blk_below hl hb) (by rw [hrec]), ?_⟩))⟩
      have hll := blk_lt hl
      have hkl := blk_lt hk
      have hl2 : (W₁.putObj (w.heap.size + 1) (.loop { rec .ready none with state := .busy })).heap[w.heap.size + 1]? = some (.loop { rec .ready none with state := .busy }) := World.putObj_heap_same (Nat.lt_of_lt_of_le hll hb.size)
      have hk2 : (W₁.putObj (w.heap.size + 1) (.loop { rec .ready none with state := .busy })).heap[w.heap.size]? = some (.deferred (some [])) := (World.putObj_heap_other (by omega)).trans (blk_below hk hb)
      have hSl : ¬ S2 (w.heap.size + 1) := fun h => by have := hcellne hi h hl; cases this
      have hSk : ¬ S2 w.heap.size := fun h => by have := hcellne hi h hk; cases this
      have hkp : Keeps W (W₁.putObj (w.heap.size + 1) (.loop { rec .ready none with state := .busy })) (fun k => k = w.heap.size + 1) :=
        ⟨hb.os, hb.tape, hb.output, by simpa using hb.size, fun k hk hn => (World.putObj_heap_other (by omega)).trans (hb.block k hk)⟩
      have hax2 := hAx _ _ _ _ _ _ _ _ _ _ (W₁.putObj (w.heap.size + 1) (.loop { rec .ready none with state := .busy })) hax (by simp) (fun k hk _ => World.putObj_heap_other (by omega))
      generalize W₁.putObj (w.heap.size + 1) (.loop { rec .ready none with state := .busy }) = W2 at hl2 hk2 hkp hax2 ⊢
      have hi2 : I S2 pre W2 := hIs _ _ _ _ hi hkp.size (fun k hk hlt => hkp.block k hlt (fun e => hSl (e ▸ hk)))
      have hp2 := Kd.F_mono (Kd.F_step hp (fun k hk hlt => hkp.block k hlt (fun e => hk (.inr (.inl e))))) (ok' := fun k => ¬ S2 k) (fun k hk h => hk (.inl h))
      have hs2 := Kd.F_mono (Kd.F_step hs (fun k hk hlt => hkp.block k hlt (fun e => hk (.inr (.inl e))))) (ok' := fun k => ¬ S2 k) (fun k hk h => hk (.inl h))
      refine wpIn_mono (hbody _ m S2 W.heap.size pre p s A c As2 cs2 a₁ W2 hi2 (fun k hk => hlt hi hk) hkp.size hlen hpm hp2 hpc hs2 hsc hax2) ?_
      rintro e a3 W3 hpost
      cases e with
      | normal =>
        obtain ⟨S3, hi3, hk3, hsub3⟩ := hpost
        have hl3 := hk3.blk hl2 hSl
        have hk3' := hk3.blk hk2 hSk
        have hSl3 : ¬ S3 (w.heap.size + 1) := fun h => by have := hcellne hi3 h hl3; cases this
        have hend := run_endRound (P := Try.prog) none hl3
        rw [hrec] at hend
        refine ⟨_, _, hend, rfl, fun k => S3 k ∨ k = w.heap.size + 1 ∨ k = w.heap.size, ⟨S3, rfl, ?_, ?_, ?_⟩, ?_, ?_⟩
        · exact hIs _ _ _ _ hi3 (by simp) (fun k hk _ => World.putObj_heap_other (fun e => hSl3 (e ▸ hk)))
        · rw [hrec]
          exact World.putObj_heap_same (blk_lt hl3)
        · exact (World.putObj_heap_other (by omega)).trans hk3'
        · refine ⟨hk3.os.trans hkp.os, hk3.tape.trans hkp.tape, hk3.output.trans hkp.output, ?_, ?_⟩
          · have h1 := hkp.size
            have h2 := hk3.size
            simp
            omega
          · intro k hk hn
            refine (World.putObj_heap_other (fun e => hn (.inr (.inl e)))).trans ((hk3.block k (Nat.lt_of_lt_of_le hk hkp.size) (fun h => hn (.inl h))).trans (hkp.block k hk (fun e => hn (.inr (.inl e)))))
        · rintro k (hk | rfl | rfl)
          · exact (hsub3 k hk).imp_left .inl
          · exact .inl (.inr (.inl rfl))
          · exact .inl (.inr (.inr rfl))
      | ret => exact hpost.elim
      | exit id => exact hpost.elim
      | goto t => exact hpost.elim
      | panic ch => exact hpost.elim
      | outgrown => exact hpost.elim
    · refine Kd.F_mono (Kd.F_bound (Kd.F_below (Kd.F_mono (Kd.F_bound ht) (fun k hk => hk)) hb1)) ?_
      rintro k ⟨⟨hk, hlt'⟩, _⟩ (h | rfl | rfl)
      · exact hk h
      · omega
      · omega
    · rintro e W2 ⟨⟨v, rfl⟩, SJ, ⟨S', rfl, hi, hl, hk⟩, hkp, hsub⟩
      have hSl : ¬ S' (w.heap.size + 1) := fun h => by have := hcellne hi h hl; cases this
      have hSk : ¬ S' w.heap.size := fun h => by have := hcellne hi h hk; cases this
      refine ⟨none, _, by have := run_endLoop (P := Try.prog) hl (by rw [hrec]; simp); rw [hrec] at this; exact this, ?_⟩
      refine hdone _ S' _ (hIs _ _ _ _ hi (by simp) (fun k hk _ => World.putObj_heap_other (fun e => hSl (e ▸ hk)))) ?_ (fun k hk => ?_) ((World.putObj_heap_other (by omega)).trans hk) (Nat.le_refl _)
      · have h1 := (Keeps.of_below hb1 S).trans hkp (fun b h => ?_)
        · exact ⟨h1.os, h1.tape, h1.output, by simpa using h1.size, fun k hk hn => (World.putObj_heap_other (by omega)).trans (h1.block k hk hn)⟩
        · rcases h with h | rfl | rfl
          · exact .inl h
          · exact .inr (by omega)
          · exact .inr (Nat.le_refl _)
      · rcases hsub k (.inl hk) with (h | rfl | rfl) | h
        · exact .inl h
        · exact .inr (by omega)
        · exact .inr (Nat.le_refl _)
        · exact .inr (Nat.le_trans hb1.size h)
end Go.Proofs.Ytpfddihcikiofaa.P
end

section
namespace Go.Proofs.Ytpfddihcikiofaa.P
open Go.RowKit Go.Shelf Go.Proofs.YtpfddihcikiofaaW.PrintWords Go.Proofs.YtpfddihcikiofaaW.PrintLast Go.Proofs.YtpfddihcikiofaaW.PrintMore
set_option linter.unusedVariables false
set_option linter.unusedSimpArgs false
attribute [local go_sem] Oper.semAt_some
def term_Size.f (a0_0 : Int) (l0_1 : List S30) : Option Int := if (flatP [] ⟨a0_0, l0_1⟩).length ≤ 1099511627776 then some ((flatP [] ⟨a0_0, l0_1⟩).length : Int) else none
set_option maxRecDepth 100000 in
set_option maxHeartbeats 2000000 in
theorem term_Size.calls (a0_0 : Int) (A0_1 : Option Addr) (c0_1 : Nat) (l0_1 : List S30) (r : Int) (w : World) (hr0_1 : Kd.C k30 w A0_1 l0_1.length l0_1) (hc0_1 : l0_1.length ≤ c0_1) (h : term_Size.f a0_0 l0_1 = some r) :
    Calls Try.prog 34 #[.agg #[.int .i64 a0_0, .slice A0_1 l0_1.length c0_1]] w fun e w' => e = .returned (.int .i64 r) ∧ Below w.heap.size w w' := by
  unfold term_Size.f at h
  by_cases hM : (flatP [] ⟨a0_0, l0_1⟩).length ≤ 1099511627776
  · rw [if_pos hM] at h
    obtain rfl := Option.some.inj h
    clear h
    refine (callsIn_wide (n := 9)).1 ?_
    refine callsIn_of_wp_marks Try.func34 rfl trivial ?_ rfl
    simp only [Try.ntmps34, List.size_toArray, List.length_cons, List.length_nil, Nat.reduceAdd, Nat.reduceSub, Array.replicate_succ, Array.replicate_zero, List.push_toArray, List.append_toArray, List.nil_append, List.cons_append]
    gi_wp2_with (refine ⟨trivial, ?_⟩; (try refine ⟨wide_any _, ?_⟩); gi_at_call 72; refine (callsIn_wide.2 (all_any _ _ _)).mono ?_; rintro e w' ⟨rfl, rfl⟩)
    have hbx : (((w.alloc (.cells #[.int .i64 a0_0, .slice A0_1 l0_1.length c0_1] 30)).alloc (.cells #[.int .i64 0] 3)).alloc (.cells #[.int .i64 a0_0, .slice A0_1 l0_1.length c0_1] 30)).heap[w.heap.size + 1]? = some (.cells #[.int .i64 0] 3 (0, 0)) := by
      have := heap_alloc_new (w.alloc (.cells #[.int .i64 a0_0, .slice A0_1 l0_1.length c0_1] 30)) (.cells #[.int .i64 0] 3)
      rw [World.size_alloc] at this
      exact blk_alloc this _
    have hbB : (((w.alloc (.cells #[.int .i64 a0_0, .slice A0_1 l0_1.length c0_1] 30)).alloc (.cells #[.int .i64 0] 3)).alloc (.cells #[.int .i64 a0_0, .slice A0_1 l0_1.length c0_1] 30)).heap[w.heap.size + 1 + 1]? = some (.cells #[.int .i64 a0_0, .slice A0_1 l0_1.length c0_1] 30 (0, 0)) := by
      have := heap_alloc_new ((w.alloc (.cells #[.int .i64 a0_0, .slice A0_1 l0_1.length c0_1] 30)).alloc (.cells #[.int .i64 0] 3)) (.cells #[.int .i64 a0_0, .slice A0_1 l0_1.length c0_1] 30)
      rwa [World.size_alloc, World.size_alloc] at this
    have hb2 : Below w.heap.size w (((w.alloc (.cells #[.int .i64 a0_0, .slice A0_1 l0_1.length c0_1] 30)).alloc (.cells #[.int .i64 0] 3)).alloc (.cells #[.int .i64 a0_0, .slice A0_1 l0_1.length c0_1] 30)) := below_alloc (below_alloc (below_alloc (Below.refl _ _) _) _) _
    generalize ((w.alloc (.cells #[.int .i64 a0_0, .slice A0_1 l0_1.length c0_1] 30)).alloc (.cells #[.int .i64 0] 3)).alloc (.cells #[.int .i64 a0_0, .slice A0_1 l0_1.length c0_1] 30) = w2 at hbx hbB hb2 ⊢
    have hF : Kd.F k30 w2 (fun k => ¬ k = w.heap.size + 1) A0_1 l0_1.length l0_1 := Kd.F_mono (Kd.F_below (Kd.C_F k30_heap hr0_1) hb2) (fun k hk h => by omega)
    refine range_all (t := ⟨a0_0, l0_1⟩) (n := 9) rfl (fun k => k = w.heap.size + 1) A0_1 c0_1 hbB hF hc0_1 hM
      (fun S pre W => S = (fun k => k = w.heap.size + 1) ∧ W.heap[w.heap.size + 1]? = some (.cells #[.int .i64 (pre.length : Int)] 3 (0, 0)))
      ?hIc ?hIs ⟨rfl, hbx⟩ (fun S n0 p s A c As cs a W => a = { tmps := #[.agg #[.int .i64 a0_0, .slice A0_1 l0_1.length c0_1], .pointer (some ⟨w.heap.size, 0, none⟩), .int .i64 0, .pointer (some ⟨w.heap.size + 1, 0, none⟩), .agg #[.int .i64 a0_0, .slice A0_1 l0_1.length c0_1], .func (.func 103) #[] #[.pointer (some ⟨w.heap.size + 1 + 1, 0, none⟩)], .slice A p.length c, .agg #[.int .i64 s.f0, .slice As s.f1.length cs], undef, undef, undef], defers := [] }) ?hAx ?assign ?body ?done
    case hIc =>
      rintro S pre W ⟨rfl, hb⟩ k rfl
      exact ⟨_, hb, rfl⟩
    case hIs =>
      rintro S pre W W' ⟨rfl, hb⟩ hs hk
      exact ⟨rfl, (hk _ rfl (blk_lt hb)).trans hb⟩
    case hAx =>
      intro S n0 p s A c As cs a₁ W W' h _ _
      exact h
    case assign =>
      intro l m S p s A c As cs W K hK
      gi_wp2
      exact hK _ _ (Below.refl _ _) (by rfl)
    case body =>
      rintro l m S n0 pre p s A c As cs a₁ W ⟨rfl, hb⟩ hn0 hle hlen hpm hp hpc hs hsc rfl
      have hc0 : W.cell? ⟨w.heap.size + 1, 0, none⟩ = some (.int .i64 (pre.length : Int)) := (blk_cell hb 0).trans rfl
      have hf0 := blk_frozen hb 0
      have hpl : (pre.length : Int) < 1099511627776 := by omega
      have hbz := Aside0.mk hb
      clear hp hs hb
      gi_wp2
      refine ⟨_, ⟨rfl, ?_⟩, Keeps.setCell W _ _, fun k hk => .inl hk⟩
      have := blk_put hbz.out 0 (.int .i64 ((pre.length : Int) + 1)) rfl
      simpa using this
    case done =>
      rintro D S' W' ⟨rfl, hb⟩ hk _ hD hle
      have hc0 : W'.cell? ⟨w.heap.size + 1, 0, none⟩ = some (.int .i64 ((flatP [] ⟨a0_0, l0_1⟩).length : Int)) := (blk_cell hb 0).trans rfl
      have hkz := Aside0.mk hk
      have hDz := Aside0.mk hD
      clear hk hD hb
      gi_wp2
      refine ⟨by simp, .inl ⟨_, _, rfl, run_takeDeferred hDz.out, ?_⟩⟩
      refine ⟨_, results_tmp rfl _ _ _, rfl, ?_⟩
      have h1 := hkz.out.toBelow hb2.size (fun b hb => by omega)
      have h2 := hkz.out.size
      have h3 := hb2.size
      exact below_put (hb2.trans h1) (by omega) (by omega) _
  · rw [if_neg hM] at h
    cases h
end Go.Proofs.Ytpfddihcikiofaa.P
end

section
namespace Go.Proofs.Ytpfddihcikiofaa.P
open Go.RowKit Go.Proofs.YtpfddihcikiofaaW.PrintWords Go.Proofs.YtpfddihcikiofaaW.PrintLast Go.Proofs.YtpfddihcikiofaaW.PrintMore
set_option linter.unusedVariables false
set_option linter.unusedSimpArgs false
set_option maxRecDepth 100000 in
set_option maxHeartbeats 1000000 in
theorem clone_ints (A : Option Addr) (c : Nat) (l : List Int) (w : World) (hC : (Kd.int .i64).C w A l.length l) (hc : l.length ≤ c) (hl : l.length * 8 ≤ 140737488355328) :
    Calls Try.prog 73 #[.slice A l.length c] w fun e w' => ∃ v : Value, e = .returned v ∧ (Kd.int .i64).R 3 w' w.heap.size (fun _ => True) v l ∧ Below w.heap.size w w' := by
  have hnil := fun (W : World) => Lib.run_eql_slice_nil (P := Try.prog) W 25 3 A l.length c 0 0 Try.underlying25
  cases A with
  | none =>
    have h0 : l = [] := by
      rcases Nat.eq_zero_or_pos l.length with h | h
      · exact List.eq_nil_of_length_eq_zero h
      · obtain ⟨ad, e, _⟩ := hC.2.2 h
        cases e
    subst h0
    have hn0 := fun (W : World) => Lib.run_eql_slice_nil (P := Try.prog) W 25 3 none 0 c 0 0 Try.underlying25
    clear hnil
    go_enter Try.func73, Try.ntmps73
    go_wp2
    go_ret
    exact ⟨_, rfl, Kd.R_nil _ _ _ _ _, Below.refl _ _⟩
  | some ad =>
    have HC := Aside0.mk hC
    go_enter Try.func73, Try.ntmps73
    have hO : (Kd.int .i64).R 3 (w.alloc (.cells #[] 3)) w.heap.size (fun _ => True) (.slice (some ⟨w.heap.size, 0, none⟩) 0 0) [] := Kd.R_of_own (by simpa [encs] using World.ownsRow_lit (base := w.heap.size) (e := 3) (size := 1) w #[] 0 (Nat.le_refl _) (by simp [maxLen]) (by simp)) (fun _ _ => trivial)
    have HO := Aside0.mk hO
    have HB := Aside0.mk (below_alloc (Below.refl w.heap.size w) (.cells #[] 3))
    have HL := Aside0.mk hl
    clear hO hl hC
    go_wp2_with (at_builtin; refine Kd.R_append_row (w0 := w) (Value.int .i64) 0 w.heap.size rfl (.tmp 5) (.tmp 6) 25 3 (.int .i64 0) 8 rfl Try.underlying25 info3 rfl (by omega) _ [] l (some ad) l.length c (fun _ => True) rfl rfl (fun _ _ => trivial) HO.out (Kd.C_below HC.out HB.out) HB.out (by simp) (by have := HL.out; simp; omega) ?_; intro v1 w1 ho hb hg hat; have HO1 := Aside0.mk ho; have HB1 := Aside0.mk hb; clear ho hb hg hat)
    go_ret
    exact ⟨_, rfl, HO1.out, HB1.out⟩
end Go.Proofs.Ytpfddihcikiofaa.P
end

section
namespace Go.Proofs.Ytpfddihcikiofaa.P
open Go.RowKit Go.Shelf Go.Proofs.YtpfddihcikiofaaW.PrintWords Go.Proofs.YtpfddihcikiofaaW.PrintLast Go.Proofs.YtpfddihcikiofaaW.PrintMore
set_option linter.unusedVariables false
set_option linter.unusedSimpArgs false
attribute [local go_sem] Oper.semAt_some
section
variable {F : Fence} {nF : Nat} {P : Program}
theorem stepIn_append_own_at {ops : Array Oper} {o : Oper} {a : Act} {w : World} {K : Act → World → Prop} {Q : Exit → Act → World → Prop} {E : Prop} (hgd : o.guard = none) (s x : Operand) (t : TypeId)
    (ho : o.op = .call { callee := .builtin .append, args := #[s, x], argTypes := #[t, t] })
    (base : Nat) (e : TypeId) (i : TypeInfo) (z : Value) (size bytes : Nat) (ht : P.underlying t = some (.slice e)) (hi : P.info? e = some i) (hz : i.zero = some z)
    (hsize : i.size = size) (hby : i.bytes = bytes) (hzs : z.cells.size = size) (hsz : 0 < size)
    (v : Value) (n : Nat) (xs : List Value) (hs : a.eval s = v) (hown : w.ownsRow base e size v n xs)
    (ad : Addr) (m c : Nat) (news : List Value) (hx : a.eval x = .slice (some ad) m c) (hl : news.length = m * size) (hnews : ∀ j u, news[j]? = some u → w.cell? (ad.add j) = some u) (h1 : ∀ u ∈ news, u.oneCell' = true)
    (h63 : n + m ≤ maxLen) (hbytes : (n + m) * bytes ≤ 140737488355328) (hbase : base ≤ w.heap.size)
    (h : ∀ v' w', w'.ownsRow base e size v' (n + m) (xs ++ news) → w.grownBy w' v.ownBlock → (v'.ownBlock = v.ownBlock ∨ v'.ownBlock = some w.heap.size) → K (a.put o.dst v') w') :
    if Region.wanted o (yielded ops a.tmps) = true then Oper.wpIn F nF P o a w K Q else E := by
  have hw : Region.wanted o (yielded ops a.tmps) = true := by simp [Region.wanted, hgd]
  rw [if_pos hw]
  obtain ⟨v', w', hr, h2, h3, h4, h5⟩ := run_append_own_at (P := P) w base t o.type e i z size bytes ht hi hz hsize hby hzs hsz v n xs hown ad m c news hl hnews h1 h63 hbytes hbase
  unfold Oper.wpIn
  refine ⟨by simp [Oper.about, ho, resolve, Target.leads, Sem.run_pure], ?_⟩
  rw [Oper.semAt_plain F _ _ (by rw [ho]; intro c hc'; cases hc')]
  simp [execOp, ho, resolve, invoke, builtin, hs, hx, hr, Result.andThen]
  exact h v' w' h2 h3 h5
end
def term_Places.f (a0_0 : Int) (l0_1 : List S30) : Option (List (List Int)) := if (flatP [] ⟨a0_0, l0_1⟩).length ≤ 1099511627776 then some ((flatP [] ⟨a0_0, l0_1⟩).map Prod.fst) else none
def PlInv (Bl : Nat) (S : Nat → Prop) (l : List (List Int)) (W : World) : Prop :=
  ∃ (P : Nat → Prop) (A : Option Addr) (c : Nat), S = (fun k => k = Bl ∨ P k) ∧ W.heap[Bl]? = some (.cells #[.slice A l.length c] 32 (0, 0)) ∧ (Kd.slice 3 (Kd.int .i64)).R 25 W (Bl + 1) P (.slice A l.length c) l ∧
    ∀ k, P k → k ≠ Bl ∧ ∃ (q : Nat) (cells : Array Value), W.heap[k]? = some (.cells cells q (0, 0))
theorem PlInv.cells {Bl : Nat} {S : Nat → Prop} {l : List (List Int)} {W : World} (h : PlInv Bl S l W) {k : Nat} (hk : S k) : ∃ o : Obj, W.heap[k]? = some o ∧ o.isCells = true := by
  obtain ⟨P, A, c, rfl, hb, _, hP⟩ := h
  rcases hk with rfl | hk
  · exact ⟨_, hb, rfl⟩
  · obtain ⟨_, q, cells, h⟩ := hP k hk
    exact ⟨_, h, rfl⟩
theorem PlInv.step {Bl : Nat} {S : Nat → Prop} {l : List (List Int)} {W W' : World} (h : PlInv Bl S l W) (hk : ∀ k, S k → k < W.heap.size → W'.heap[k]? = W.heap[k]?) : PlInv Bl S l W' := by
  obtain ⟨P, A, c, rfl, hb, hR, hP⟩ := h
  refine ⟨P, A, c, rfl, (hk _ (.inl rfl) (blk_lt hb)).trans hb, Kd.R_step hR (fun k h hlt => hk k (.inr h) hlt), fun k h => ⟨(hP k h).1, ?_⟩⟩
  obtain ⟨_, q, cells, hc⟩ := hP k h
  exact ⟨q, cells, (hk k (.inr h) (blk_lt hc)).trans hc⟩
set_option maxRecDepth 100000 in
set_option maxHeartbeats 2000000 in
theorem term_Places.calls (a0_0 : Int) (A0_1 : Option Addr) (c0_1 : Nat) (l0_1 : List S30) (r : List (List Int)) (w : World) (hr0_1 : Kd.C k30 w A0_1 l0_1.length l0_1) (hc0_1 : l0_1.length ≤ c0_1) (h : term_Places.f a0_0 l0_1 = some r) :
    Calls Try.prog 23 #[.agg #[.int .i64 a0_0, .slice A0_1 l0_1.length c0_1]] w fun e w' => ∃ v0_ : Value, e = .returned (v0_) ∧ Kd.R (Kd.slice 3 (Kd.int .i64)) 25 w' w.heap.size (fun _ => True) v0_ r ∧ Below w.heap.size w w' := by
  unfold term_Places.f at h
  by_cases hM : (flatP [] ⟨a0_0, l0_1⟩).length ≤ 1099511627776
  · rw [if_pos hM] at h
    obtain rfl := Option.some.inj h
    clear h
    refine (callsIn_wide (n := 9)).1 ?_
    refine callsIn_of_wp_marks Try.func23 rfl trivial ?_ rfl
    simp only [Try.ntmps23, List.size_toArray, List.length_cons, List.length_nil, Nat.reduceAdd, Nat.reduceSub, Array.replicate_succ, Array.replicate_zero, List.push_toArray, List.append_toArray, List.nil_append, List.cons_append]
    gi_wp2_with (refine ⟨trivial, ?_⟩; (try refine ⟨wide_any _, ?_⟩); gi_at_call 72; refine (callsIn_wide.2 (all_any _ _ _)).mono ?_; rintro e w' ⟨rfl, rfl⟩)
    obtain ⟨W3, hW3⟩ : ∃ W, W = ((w.alloc (.cells #[.int .i64 a0_0, .slice A0_1 l0_1.length c0_1] 30)).alloc (.cells #[.slice none 0 0] 32)).alloc (.cells #[.int .i64 a0_0, .slice A0_1 l0_1.length c0_1] 30) := ⟨_, rfl⟩
    have hbx : W3.heap[w.heap.size + 1]? = some (.cells #[.slice none 0 0] 32 (0, 0)) := by
      have := heap_alloc_new (w.alloc (.cells #[.int .i64 a0_0, .slice A0_1 l0_1.length c0_1] 30)) (.cells #[.slice none 0 0] 32)
      rw [World.size_alloc] at this
      rw [hW3]
      exact blk_alloc this _
    have hbB : W3.heap[w.heap.size + 1 + 1]? = some (.cells #[.int .i64 a0_0, .slice A0_1 l0_1.length c0_1] 30 (0, 0)) := by
      have := heap_alloc_new ((w.alloc (.cells #[.int .i64 a0_0, .slice A0_1 l0_1.length c0_1] 30)).alloc (.cells #[.slice none 0 0] 32)) (.cells #[.int .i64 a0_0, .slice A0_1 l0_1.length c0_1] 30)
      rw [World.size_alloc, World.size_alloc] at this
      rw [hW3]
      exact this
    have hb2 : Below w.heap.size w W3 := by rw [hW3]; exact below_alloc (below_alloc (below_alloc (Below.refl _ _) _) _) _
    rw [← hW3]
    clear hW3
    have hF : Kd.F k30 W3 (fun k => ¬ (k = w.heap.size + 1 ∨ False)) A0_1 l0_1.length l0_1 := Kd.F_mono (Kd.F_below (Kd.C_F k30_heap hr0_1) hb2) (fun k hk h => h.elim (fun h => by omega) id)
    refine range_all (t := ⟨a0_0, l0_1⟩) (n := 9) rfl (fun k => k = w.heap.size + 1 ∨ False) A0_1 c0_1 hbB hF hc0_1 hM
      (fun S pre W => PlInv (w.heap.size + 1) S (pre.map Prod.fst) W)
      ?hIc ?hIs ⟨fun _ => False, none, 0, rfl, hbx, Kd.R_nil _ _ _ _ _, fun k h => h.elim⟩ (fun S n0 p s A c As cs a W => a = { tmps := #[.agg #[.int .i64 a0_0, .slice A0_1 l0_1.length c0_1], .pointer (some ⟨w.heap.size, 0, none⟩), .slice none 0 0, .pointer (some ⟨w.heap.size + 1, 0, none⟩), .slice A p.length c, .agg #[.int .i64 a0_0, .slice A0_1 l0_1.length c0_1], .func (.func 103) #[] #[.pointer (some ⟨w.heap.size + 1 + 1, 0, none⟩)], .slice A p.length c, .agg #[.int .i64 s.f0, .slice As s.f1.length cs], undef, undef, undef, undef, undef, undef], defers := [] }) ?hAx ?assign ?body ?done
    case hIc =>
      intro S pre W h k hk
      exact h.cells hk
    case hIs =>
      intro S pre W W' h hs hk
      exact h.step hk
    case hAx =>
      intro S n0 p s A c As cs a₁ W W' h _ _
      exact h
    case assign =>
      intro l m S p s A c As cs W K hK
      gi_wp2
      exact hK _ _ (Below.refl _ _) rfl
    case body =>
      rintro l m S n0 pre p s A c As cs a₁ W hI hn0 hle hlen hpm hp hpc hs hsc rfl
      obtain ⟨P, Au, cu, rfl, hb, hR, hP⟩ := hI
      rw [List.length_map] at hb hR
      have hmx : Try.prog.follows .mixedOrders = true := by kernel_rfl
      have hpl : p.length * 8 ≤ 140737488355328 := by omega
      have hC := Kd.F_now hp
      have hc0 : W.cell? ⟨w.heap.size + 1, 0, none⟩ = some (.slice Au pre.length cu) := (blk_cell hb 0).trans rfl
      have hf0 := blk_frozen hb 0
      have hCz := Aside0.mk hC
      have hbz := Aside0.mk hb
      have hRz := Aside0.mk hR
      have hPz := Aside0.mk hP
      obtain ⟨inner0, ho0⟩ := Kd.R_own hR
      rw [List.length_map] at ho0
      have hoz := Aside0.mk ho0
      have hW : w.heap.size + 1 < W.heap.size := blk_lt hb
      obtain ⟨i0, hi, hz0, hz1, hz2⟩ := info_parts info25
      clear hp hs hC hb hR hP ho0
      have hz : (Exit.inBlock 1 (bodyEnd (fun S pre W => PlInv (w.heap.size + 1) S (pre.map Prod.fst) W) (fun k => k = w.heap.size + 1 ∨ P k) n0 (pre ++ [(p, s)]) W)) = (Exit.inBlock 1 (bodyEnd (fun S pre W => PlInv (w.heap.size + 1) S (pre.map Prod.fst) W) (fun k => k = w.heap.size + 1 ∨ P k) n0 (pre ++ [(p, s)]) W)) := rfl
      clear hz
      have hD : ∀ (w1 : World) (v : Value), (Kd.int .i64).R 3 w1 W.heap.size (fun _ => True) v p → Below W.heap.size W w1 → wpAnyIn (Fence.wide.inRound l) m Try.prog .any #[{ dst := some 9, op := Op.load 32 (Operand.tmp 3), type := 32, pos := "term.go:86", after := #[], guard := none }, { dst := some 10, op := Op.move (Operand.tmp 4), type := 25, pos := "term.go:86", after := #[], guard := none }, { dst := some 11, op := Op.call { callee := Callee.value (Operand.func 73), args := #[Operand.tmp 10], argTypes := #[25] }, type := 25, pos := "term.go:86", after := #[{ on := 1, ground := Ground.data }], guard := none }, { dst := some 12, op := Op.buildSlice 32 1 #[(0, Operand.tmp 11)], type := 32, pos := "term.go:86", after := #[{ on := 2, ground := Ground.data }], guard := none }, { dst := some 13, op := Op.call { callee := Callee.builtin Builtin.append, args := #[Operand.tmp 9, Operand.tmp 12], argTypes := #[32, 32] }, type := 32, pos := "term.go:86", after := #[{ on := 0, ground := Ground.data }, { on := 3, ground := Ground.data }, { on := 2, ground := Ground.chain }], guard := none }, { dst := none, op := Op.store 32 (Operand.tmp 3) (Operand.tmp 13), type := 0, pos := "term.go:86", after := #[{ on := 4, ground := Ground.data }, { on := 4, ground := Ground.chain }, { on := 0, ground := Ground.phase }, { on := 1, ground := Ground.phase }, { on := 2, ground := Ground.phase }, { on := 3, ground := Ground.phase }, { on := 4, ground := Ground.phase }], guard := none }] (Exit.inBlock 1 (bodyEnd (fun S pre W => PlInv (w.heap.size + 1) S (pre.map Prod.fst) W) (fun k => k = w.heap.size + 1 ∨ P k) n0 (pre ++ [(p, s)]) W)) 2 #[true, true, true, true, false, false] { tmps := #[.agg #[.int .i64 a0_0, .slice A0_1 l0_1.length c0_1], .pointer (some ⟨w.heap.size, 0, none⟩), .slice none 0 0, .pointer (some ⟨w.heap.size + 1, 0, none⟩), .slice A p.length c, .agg #[.int .i64 a0_0, .slice A0_1 l0_1.length c0_1], .func (.func 103) #[] #[.pointer (some ⟨w.heap.size + 1 + 1, 0, none⟩)], .slice A p.length c, .agg #[.int .i64 s.f0, .slice As s.f1.length cs], .slice Au pre.length cu, .slice A p.length c, v, .slice (some ⟨w1.heap.size, 0, none⟩) 1 1, undef, undef], defers := [] } (w1.alloc (.cells #[v] 25)) := by
        intro w1 v hv hbv
        have hR1 := Kd.R_mono (Kd.R_below (Kd.R_below hRz.out hbv) (below_alloc (Below.refl _ _) (.cells #[v] 25))) (ok' := fun k => P k ∨ W.heap.size ≤ k) (fun k hk => .inl hk)
        have hv1 := Kd.R_lower (Kd.R_mono (Kd.R_bound (Kd.R_below hv (below_alloc (Below.refl _ _) (.cells #[v] 25)))) (ok' := fun k => W.heap.size ≤ k) (fun k hk => hk.2.1)) (show w.heap.size + 1 + 1 ≤ W.heap.size from hW)
        have hb1 : (w1.alloc (.cells #[v] 25)).heap[w.heap.size + 1]? = some (.cells #[.slice Au pre.length cu] 32 (0, 0)) := blk_alloc (blk_below hbz.out hbv) _
        have hbv1 : Below W.heap.size W (w1.alloc (.cells #[v] 25)) := below_alloc hbv _
        have hsz1 : (w1.alloc (.cells #[v] 25)).heap.size = w1.heap.size + 1 := by simp
        have hN1 : (w1.alloc (.cells #[v] 25)).heap[w1.heap.size]? = some (.cells #[v] 25 (0, 0)) := heap_alloc_new _ _
        have hs1 := hbv.size
        generalize w1.alloc (.cells #[v] 25) = w2 at hR1 hv1 hb1 hbv1 hsz1 hN1 ⊢
        obtain ⟨Av, cv, rfl⟩ := Kd.R_slice hv1
        obtain ⟨h0, inner, ho, hr⟩ := hR1
        rw [List.length_map] at ho
        refine wpAnyIn_ready (rs := [4]) (by kernel_rfl) (by simp) (AllReadyIn.cons rfl (fun K hK => ?_) AllReadyIn.nil)
        refine stepIn_append_own_at rfl (.tmp 9) (.tmp 12) 32 rfl (w.heap.size + 1 + 1) 25 i0 (.slice none 0 0) 1 24 Try.underlying32 hi hz0 hz1 hz2 rfl (by decide) _ pre.length inner rfl ho ⟨w1.heap.size, 0, none⟩ 1 1 [.slice Av p.length cv] rfl rfl ?hnews (by intro u hu; simp at hu; subst hu; rfl) (by simp only [maxLen]; omega) (by omega) (by omega) ?_
        case hnews =>
          intro j u hu
          cases j with
          | zero =>
            simp at hu
            subst hu
            rw [add_plain]
            exact (blk_cell hN1 0).trans rfl
          | succ j => simp at hu
        intro v2 w3 ho2 hg hat
        have hat' : v2.ownBlock = (Value.slice Au pre.length cu).ownBlock ∨ ∃ b, v2.ownBlock = some b ∧ w2.heap.size ≤ b := hat.imp_right (fun h => ⟨_, h, Nat.le_refl _⟩)
        have hR3 := Kd.R_appended (d := Kd.slice 3 (Kd.int .i64)) (e := 25) (p := p) (cs := [.slice Av p.length cv]) (okp := fun k => W.heap.size ≤ k) h0 hr ⟨_, rfl, hv1⟩ (fun k hk => ⟨.inr hk, fun e => by have := own_lt hoz.out k e.symm; omega⟩) (fun k hk => .inr (by omega)) (by rw [List.length_map]; exact ho2) hg hat'
        obtain ⟨g', cap', rfl⟩ := ownsRow_succ ho2
        have hne : some (w.heap.size + 1) ≠ (Value.slice Au pre.length cu).ownBlock := fun e => by have := own_base hoz.out _ e.symm; omega
        have hb3 := blk_grown hb1 hg hne
        have hc3 : w3.cell? ⟨w.heap.size + 1, 0, none⟩ = some (.slice Au pre.length cu) := (blk_cell hb3 0).trans rfl
        have hf3 := blk_frozen hb3 0
        have hz1 := Aside0.mk hR3
        have hz2 := Aside0.mk hb3
        have hz3 := Aside0.mk hg
        have hz4 := Aside0.mk hbv1
        clear hR3 hb3 hg hbv1 hat hat' ho2 h0 hr hv1 hv ho hb1 hN1 hbv
        refine hK _ _ ?_
        refine wpAnyIn_ready (rs := [5]) (by kernel_rfl) (by simp) (AllReadyIn.cons rfl (fun K hK => ?_) AllReadyIn.nil)
        go_simp
        refine hK _ _ ?_
        refine wpAnyIn_done (by kernel_rfl) ?_ _
        have hk1 : Keeps W w3 (fun k => k = w.heap.size + 1 ∨ P k) := (Keeps.of_below hz4.out _).trans ⟨hz3.out.os, hz3.out.tape, hz3.out.output, hz3.out.size, fun k hk hn => hz3.out.block k hk (fun e => hn e.symm)⟩ (S' := fun k => (Value.slice Au pre.length cu).ownBlock = some k) (fun b hb => .inl (.inr (hRz.out.1 b hb)))
        obtain ⟨P', hP', hR4⟩ : ∃ P' : Nat → Prop, (∀ k, P' k → (P k ∨ W.heap.size ≤ k) ∧ w.heap.size + 1 + 1 ≤ k ∧ k < w3.heap.size ∧ ∃ q, q ∈ 25 :: (Kd.slice 3 (Kd.int .i64)).E ∧ ∃ cells, w3.heap[k]? = some (.cells cells q (0, 0))) ∧ (Kd.slice 3 (Kd.int .i64)).R 25 w3 (w.heap.size + 1 + 1) P' (.slice (some ⟨g', 0, none⟩) (pre.length + 1) cap') (pre.map Prod.fst ++ [p]) := ⟨_, fun k h => h, Kd.R_bound hz1.out⟩
        have hR5 := Kd.R_far (p := ⟨w.heap.size + 1, 0, none⟩) hR4 (fun k hk (e : k = w.heap.size + 1) => by have := (hP' k hk).2.1; omega) (.slice (some ⟨g', 0, none⟩) (pre.length + 1) cap')
        refine ⟨_, ⟨P', some ⟨g', 0, none⟩, cap', rfl, ?_, ?_, ?_⟩, hk1.trans (Keeps.setCell w3 _ _) (fun b h => .inl (.inl h)), ?_⟩
        rotate_left
        · simpa using hR5
        · intro k hk
          obtain ⟨h1, h2, h3, q, hq, cells, hc⟩ := hP' k hk
          refine ⟨by omega, q, cells, ?_⟩
          exact blk_far hc (p := ⟨w.heap.size + 1, 0, none⟩) (by show k ≠ w.heap.size + 1; omega) _
        · rintro k (hk | hk)
          · exact .inl (.inl hk)
          · rcases (hP' k hk).1 with h | h
            · exact .inl (.inr h)
            · exact .inr (by omega)
        · have := blk_put hz2.out 0 (.slice (some ⟨g', 0, none⟩) (pre.length + 1) cap') rfl
          simpa using this
      have hB : ∀ (w1 : World) (v : Value), (Kd.int .i64).R 3 w1 W.heap.size (fun _ => True) v p → Below W.heap.size W w1 → wpAnyIn (Fence.wide.inRound l) m Try.prog .any #[{ dst := some 9, op := Op.load 32 (Operand.tmp 3), type := 32, pos := "term.go:86", after := #[], guard := none }, { dst := some 10, op := Op.move (Operand.tmp 4), type := 25, pos := "term.go:86", after := #[], guard := none }, { dst := some 11, op := Op.call { callee := Callee.value (Operand.func 73), args := #[Operand.tmp 10], argTypes := #[25] }, type := 25, pos := "term.go:86", after := #[{ on := 1, ground := Ground.data }], guard := none }, { dst := some 12, op := Op.buildSlice 32 1 #[(0, Operand.tmp 11)], type := 32, pos := "term.go:86", after := #[{ on := 2, ground := Ground.data }], guard := none }, { dst := some 13, op := Op.call { callee := Callee.builtin Builtin.append, args := #[Operand.tmp 9, Operand.tmp 12], argTypes := #[32, 32] }, type := 32, pos := "term.go:86", after := #[{ on := 0, ground := Ground.data }, { on := 3, ground := Ground.data }, { on := 2, ground := Ground.chain }], guard := none }, { dst := none, op := Op.store 32 (Operand.tmp 3) (Operand.tmp 13), type := 0, pos := "term.go:86", after := #[{ on := 4, ground := Ground.data }, { on := 4, ground := Ground.chain }, { on := 0, ground := Ground.phase }, { on := 1, ground := Ground.phase }, { on := 2, ground := Ground.phase }, { on := 3, ground := Ground.phase }, { on := 4, ground := Ground.phase }], guard := none }] (Exit.inBlock 1 (bodyEnd (fun S pre W => PlInv (w.heap.size + 1) S (pre.map Prod.fst) W) (fun k => k = w.heap.size + 1 ∨ P k) n0 (pre ++ [(p, s)]) W)) 3 #[true, true, true, false, false, false] { tmps := #[.agg #[.int .i64 a0_0, .slice A0_1 l0_1.length c0_1], .pointer (some ⟨w.heap.size, 0, none⟩), .slice none 0 0, .pointer (some ⟨w.heap.size + 1, 0, none⟩), .slice A p.length c, .agg #[.int .i64 a0_0, .slice A0_1 l0_1.length c0_1], .func (.func 103) #[] #[.pointer (some ⟨w.heap.size + 1 + 1, 0, none⟩)], .slice A p.length c, .agg #[.int .i64 s.f0, .slice As s.f1.length cs], .slice Au pre.length cu, .slice A p.length c, v, undef, undef, undef], defers := [] } w1 := by
        intro w1 v hv hbv
        obtain ⟨Av, cv, rfl⟩ := Kd.R_slice hv
        refine wpAnyIn_ready (rs := [3]) (by kernel_rfl) (by simp) (AllReadyIn.cons rfl (fun K hK => ?_) AllReadyIn.nil)
        go_simp
        exact hK _ _ (hD w1 _ hv hbv)
      have hC01 : wpAnyIn (Fence.wide.inRound l) m Try.prog .any #[{ dst := some 9, op := Op.load 32 (Operand.tmp 3), type := 32, pos := "term.go:86", after := #[], guard := none }, { dst := some 10, op := Op.move (Operand.tmp 4), type := 25, pos := "term.go:86", after := #[], guard := none }, { dst := some 11, op := Op.call { callee := Callee.value (Operand.func 73), args := #[Operand.tmp 10], argTypes := #[25] }, type := 25, pos := "term.go:86", after := #[{ on := 1, ground := Ground.data }], guard := none }, { dst := some 12, op := Op.buildSlice 32 1 #[(0, Operand.tmp 11)], type := 32, pos := "term.go:86", after := #[{ on := 2, ground := Ground.data }], guard := none }, { dst := some 13, op := Op.call { callee := Callee.builtin Builtin.append, args := #[Operand.tmp 9, Operand.tmp 12], argTypes := #[32, 32] }, type := 32, pos := "term.go:86", after := #[{ on := 0, ground := Ground.data }, { on := 3, ground := Ground.data }, { on := 2, ground := Ground.chain }], guard := none }, { dst := none, op := Op.store 32 (Operand.tmp 3) (Operand.tmp 13), type := 0, pos := "term.go:86", after := #[{ on := 4, ground := Ground.data }, { on := 4, ground := Ground.chain }, { on := 0, ground := Ground.phase }, { on := 1, ground := Ground.phase }, { on := 2, ground := Ground.phase }, { on := 3, ground := Ground.phase }, { on := 4, ground := Ground.phase }], guard := none }] (Exit.inBlock 1 (bodyEnd (fun S pre W => PlInv (w.heap.size + 1) S (pre.map Prod.fst) W) (fun k => k = w.heap.size + 1 ∨ P k) n0 (pre ++ [(p, s)]) W)) 4 #[true, true, false, false, false, false] { tmps := #[.agg #[.int .i64 a0_0, .slice A0_1 l0_1.length c0_1], .pointer (some ⟨w.heap.size, 0, none⟩), .slice none 0 0, .pointer (some ⟨w.heap.size + 1, 0, none⟩), .slice A p.length c, .agg #[.int .i64 a0_0, .slice A0_1 l0_1.length c0_1], .func (.func 103) #[] #[.pointer (some ⟨w.heap.size + 1 + 1, 0, none⟩)], .slice A p.length c, .agg #[.int .i64 s.f0, .slice As s.f1.length cs], .slice Au pre.length cu, .slice A p.length c, undef, undef, undef, undef], defers := [] } W.drew := by
        refine wpAnyIn_ready (rs := [2]) (by kernel_rfl) (by simp) (AllReadyIn.cons rfl (fun K hK => ?_) AllReadyIn.nil)
        go_simp
        refine ⟨trivial, ?_⟩
        (try refine ⟨wide_any _, ?_⟩)
        gi_at_call 73
        refine (CallsIn.inRound l (callsIn_wide.2 (clone_ints A c p W.drew (Kd.C_below hCz.out (pw_below_drewN (Below.refl _ _) 1)) hpc hpl))).mono ?_
        rintro e w1 ⟨v, rfl, hv, hbv⟩
        go_simp
        exact hK _ _ (hB _ _ hv ((pw_below_drewN (Below.refl _ _) 1).trans hbv))
      gi_wp2
      refine wpIn_region_any hmx ?_
      change wpAnyIn _ _ _ _ _ _ _ _ _ (World.drew _)
      refine wpAnyIn_ready (rs := [0, 1]) (by kernel_rfl) (by simp) (AllReadyIn.cons rfl (fun K hK => ?_) (AllReadyIn.cons rfl (fun K hK => ?_) AllReadyIn.nil))
      · go_simp
        refine hK _ _ ?_
        refine wpAnyIn_ready (rs := [1]) (by kernel_rfl) (by simp) (AllReadyIn.cons rfl (fun K hK => ?_) AllReadyIn.nil)
        go_simp
        exact hK _ _ hC01
      · go_simp
        refine hK _ _ ?_
        refine wpAnyIn_ready (rs := [0, 2]) (by kernel_rfl) (by simp) (AllReadyIn.cons rfl (fun K hK => ?_) (AllReadyIn.cons rfl (fun K hK => ?_) AllReadyIn.nil))
        · go_simp
          exact hK _ _ hC01
        · go_simp
          refine ⟨trivial, ?_⟩
          (try refine ⟨wide_any _, ?_⟩)
          gi_at_call 73
          refine (CallsIn.inRound l (callsIn_wide.2 (clone_ints A c p W.drew (Kd.C_below hCz.out (pw_below_drewN (Below.refl _ _) 1)) hpc hpl))).mono ?_
          rintro e w1 ⟨v, rfl, hv, hbv⟩
          have hbv : Below W.heap.size W w1 := (pw_below_drewN (Below.refl _ _) 1).trans hbv
          obtain ⟨Av, cv, rfl⟩ := Kd.R_slice hv
          have hc1 : w1.cell? ⟨w.heap.size + 1, 0, none⟩ = some (.slice Au pre.length cu) := (blk_cell (blk_below hbz.out hbv) 0).trans rfl
          have hBz := Aside0.mk hB
          have hDz := Aside0.mk hD
          have hvz := Aside0.mk hv
          have hbvz := Aside0.mk hbv
          clear hB hD hv hbv
          go_simp
          refine hK _ _ ?_
          refine wpAnyIn_ready (rs := [0, 3]) (by kernel_rfl) (by simp) (AllReadyIn.cons rfl (fun K hK => ?_) (AllReadyIn.cons rfl (fun K hK => ?_) AllReadyIn.nil))
          · go_simp
            exact hK _ _ (hBz.out w1 _ hvz.out hbvz.out)
          · go_simp
            refine hK _ _ ?_
            have hc2 : (w1.alloc (.cells #[.slice Av p.length cv] 25)).cell? ⟨w.heap.size + 1, 0, none⟩ = some (.slice Au pre.length cu) := (blk_cell (blk_alloc (blk_below hbz.out hbvz.out) _) 0).trans rfl
            refine wpAnyIn_ready (rs := [0]) (by kernel_rfl) (by simp) (AllReadyIn.cons rfl (fun K hK => ?_) AllReadyIn.nil)
            go_simp
            exact hK _ _ (hDz.out w1 _ hvz.out hbvz.out)
    case done =>
      rintro D S' W' ⟨P, Au, cu, rfl, hb, hR, hP⟩ hk _ hD hle
      rw [List.length_map] at hb hR
      have hc0 : W'.cell? ⟨w.heap.size + 1, 0, none⟩ = some (.slice Au (flatP [] ⟨a0_0, l0_1⟩).length cu) := (blk_cell hb 0).trans rfl
      have hkz := Aside0.mk hk
      have hDz := Aside0.mk hD
      have hRz := Aside0.mk hR
      have hPz := Aside0.mk hP
      clear hk hD hb hR hP
      gi_wp2
      refine ⟨by simp, .inl ⟨_, _, rfl, run_takeDeferred hDz.out, ?_⟩⟩
      refine ⟨_, results_tmp rfl _ _ _, _, rfl, ?_, ?_⟩
      · refine Kd.R_mono (Kd.R_lower (Kd.R_step hRz.out (w1 := W'.putObj D (.deferred none)) (fun k hk _ => World.putObj_heap_other (fun e => ?_))) (show w.heap.size ≤ w.heap.size + 1 + 1 by omega)) (fun _ _ => trivial)
        subst e
        obtain ⟨_, q, cells, h3⟩ := hPz.out _ hk
        have h4 := hDz.out
        rw [h3] at h4
        cases h4
      · have h1 := hkz.out.toBelow hb2.size (fun b hb => hb.elim (fun h => by omega) False.elim)
        have h2 := hkz.out.size
        have h3 := hb2.size
        exact below_put (hb2.trans h1) (by omega) (by omega) _
  · rw [if_neg hM] at h
    cases h
end Go.Proofs.Ytpfddihcikiofaa.P
end

section
namespace Go.Proofs.Ytpfddihcikiofaa.P
open Go.RowKit Go.Proofs.YtpfddihcikiofaaW.PrintWords Go.Proofs.YtpfddihcikiofaaW.PrintLast Go.Proofs.YtpfddihcikiofaaW.PrintMore
set_option linter.unusedVariables false
set_option linter.unusedSimpArgs false
mutual
def nodes : S30 → List S30
  | ⟨f, l⟩ => ⟨f, l⟩ :: (if f < 0 then [] else nodess l)
def nodess : List S30 → List S30
  | [] => []
  | x :: r => nodes x ++ nodess r
end
mutual
theorem flatP_snd : ∀ (p : List Int) (t : S30), (flatP p t).map Prod.snd = nodes t
  | p, ⟨f, l⟩ => by
    simp only [flatP, nodes, List.map_cons]
    split
    · rfl
    · rw [flatPs_snd p 0 l]
theorem flatPs_snd : ∀ (p : List Int) (i : Nat) (l : List S30), (flatPs p i l).map Prod.snd = nodess l
  | _, _, [] => rfl
  | p, i, x :: r => by
    simp only [flatPs, nodess, List.map_append]
    rw [flatP_snd, flatPs_snd]
end
theorem flatP_len (p : List Int) (t : S30) : (flatP p t).length = (nodes t).length := by rw [← flatP_snd p t, List.length_map]
mutual
theorem nodes_le : ∀ t : S30, (nodes t).length ≤ wt t
  | ⟨f, l⟩ => by
    simp only [nodes, wt, List.length_cons]
    split
    · simp
    · have := nodess_le l; omega
theorem nodess_le : ∀ l : List S30, (nodess l).length ≤ wts l
  | [] => by simp [nodess, wts]
  | x :: r => by
    have h1 := nodes_le x
    have h2 := nodess_le r
    simp only [nodess, wts, List.length_append]
    omega
end
def countN (f : Int) (l : List S30) : Nat := (l.filter fun x => x.f0 == f).length
end Go.Proofs.Ytpfddihcikiofaa.P
end

section
namespace Go.Proofs.Ytpfddihcikiofaa.P
open Go.RowKit Go.Proofs.YtpfddihcikiofaaW.PrintWords Go.Proofs.YtpfddihcikiofaaW.PrintLast Go.Proofs.YtpfddihcikiofaaW.PrintMore
attribute [local go_sem] max2_int min2_int max_two min_two max_three min_three max_four min_four
set_option linter.unusedVariables false
set_option linter.unusedSimpArgs false
def cmp_isNaN_int.f (a0 : Int) : Option (Bool) := some (a0 != a0)
set_option maxHeartbeats 8000000 in
set_option maxRecDepth 100000 in
theorem cmp_isNaN_int.calls (a0 : Int) (r : Bool) (w : World) (h : cmp_isNaN_int.f a0 = some r) :
    Calls Try.prog 106 #[.int .i64 a0] w fun e w' => e = .returned (.bool r) ∧ Drawn0 w w' := by
  have H : (some (a0 != a0)) = some r := h
  clear h
  obtain rfl := Option.some.inj H
  go_enter Try.func106, Try.ntmps106
  go_wp2
  go_ret
  exact ⟨by first | rfl | (simp; done) | (simp [*]; done), by repeat (first | exact Drawn0.refl _ | apply Drawn0.step)⟩
end Go.Proofs.Ytpfddihcikiofaa.P
end

section
namespace Go.Proofs.Ytpfddihcikiofaa.P
open Go.RowKit Go.Proofs.YtpfddihcikiofaaW.PrintWords Go.Proofs.YtpfddihcikiofaaW.PrintLast Go.Proofs.YtpfddihcikiofaaW.PrintMore
attribute [local go_sem] max2_int min2_int max_two min_two max_three min_three max_four min_four
set_option linter.unusedVariables false
set_option linter.unusedSimpArgs false
def cmp_Compare_int.f (a0 : Int) (a1 : Int) : Option (Int) := (cmp_isNaN_int.f a0).bind fun t258 => ((cmp_isNaN_int.f a1).bind fun t259 => (if t258 = true then (if t259 = true then (some 0) else (some (-1))) else (if t259 = true then (some 1) else (if a0 < a1 then (some (-1)) else (if a0 > a1 then (some 1) else (some 0))))))
set_option maxHeartbeats 8000000 in
set_option maxRecDepth 100000 in
theorem cmp_Compare_int.calls (a0 : Int) (a1 : Int) (r : Int) (w : World) (h : cmp_Compare_int.f a0 a1 = some r) :
    Calls Try.prog 76 #[.int .i64 a0, .int .i64 a1] w fun e w' => e = .returned (.int .i64 r) ∧ Drawn0 w w' := by
  have H : ((cmp_isNaN_int.f a0).bind fun t258 => ((cmp_isNaN_int.f a1).bind fun t259 => (if t258 = true then (if t259 = true then (some 0) else (some (-1))) else (if t259 = true then (some 1) else (if a0 < a1 then (some (-1)) else (if a0 > a1 then (some 1) else (some 0))))))) = some r := h
  clear h
  replace H := Option.bind_eq_some_iff.mp H
  obtain ⟨t258, A30, H⟩ := H
  replace H : ((cmp_isNaN_int.f a1).bind fun t259 => (if t258 = true then (if t259 = true then (some 0) else (some (-1))) else (if t259 = true then (some 1) else (if a0 < a1 then (some (-1)) else (if a0 > a1 then (some 1) else (some 0)))))) = some r := H
  have A3 := Aside0.mk A30
  clear A30
  replace H := Option.bind_eq_some_iff.mp H
  obtain ⟨t259, A40, H⟩ := H
  replace H : (if t258 = true then (if t259 = true then (some 0) else (some (-1))) else (if t259 = true then (some 1) else (if a0 < a1 then (some (-1)) else (if a0 > a1 then (some 1) else (some 0))))) = some r := H
  have A4 := Aside0.mk A40
  clear A40
  by_cases c5 : t258 = true
  · subst c5
    have H1 : (if t259 = true then (some 0) else (some (-1))) = some r := by rw [if_pos rfl] at H; exact H
    clear H
    have H := H1
    clear H1
    by_cases c6 : t259 = true
    · subst c6
      have H1 : (some 0) = some r := by rw [if_pos rfl] at H; exact H
      clear H
      have H := H1
      clear H1
      obtain rfl := Option.some.inj H
      go_enter Try.func76, Try.ntmps76
      go_wp2_with (first | ((with_reducible refine gate_callee (f := 106) rfl ?_); refine goesL_ (some 8) rfl rfl Try.func106 (by kernel_rfl) rfl #[.int .i64 a0] rfl (by (try simp only [List.map_toArray, List.map_cons, List.map_nil]); first | done | rfl | (simp only [List.length_drop, List.length_take]; rfl)) ?_; (with_reducible refine (cmp_isNaN_int.calls a0 true _ A3.out).mono ?_); rintro e w' ⟨rfl, ⟨nd, rfl⟩⟩; refine ⟨_, rfl, ?_⟩) | ((with_reducible refine gate_callee (f := 106) rfl ?_); refine goesL_ (some 10) rfl rfl Try.func106 (by kernel_rfl) rfl #[.int .i64 a1] rfl (by (try simp only [List.map_toArray, List.map_cons, List.map_nil]); first | done | rfl | (simp only [List.length_drop, List.length_take]; rfl)) ?_; (with_reducible refine (cmp_isNaN_int.calls a1 true _ A4.out).mono ?_); rintro e w' ⟨rfl, ⟨nd, rfl⟩⟩; refine ⟨_, rfl, ?_⟩))
      go_ret
      exact ⟨by first | rfl | (simp; done) | (simp [*]; done), by repeat (first | exact Drawn0.refl _ | apply Drawn0.step)⟩
    · replace c6 := Bool.eq_false_iff.mpr c6
      subst c6
      have H1 : (some (-1)) = some r := by rw [if_neg (show ¬ (false = true) by decide)] at H; exact H
      clear H
      have H := H1
      clear H1
      obtain rfl := Option.some.inj H
      go_enter Try.func76, Try.ntmps76
      go_wp2_with (first | ((with_reducible refine gate_callee (f := 106) rfl ?_); refine goesL_ (some 8) rfl rfl Try.func106 (by kernel_rfl) rfl #[.int .i64 a0] rfl (by (try simp only [List.map_toArray, List.map_cons, List.map_nil]); first | done | rfl | (simp only [List.length_drop, List.length_take]; rfl)) ?_; (with_reducible refine (cmp_isNaN_int.calls a0 true _ A3.out).mono ?_); rintro e w' ⟨rfl, ⟨nd, rfl⟩⟩; refine ⟨_, rfl, ?_⟩) | ((with_reducible refine gate_callee (f := 106) rfl ?_); refine goesL_ (some 10) rfl rfl Try.func106 (by kernel_rfl) rfl #[.int .i64 a1] rfl (by (try simp only [List.map_toArray, List.map_cons, List.map_nil]); first | done | rfl | (simp only [List.length_drop, List.length_take]; rfl)) ?_; (with_reducible refine (cmp_isNaN_int.calls a1 false _ A4.out).mono ?_); rintro e w' ⟨rfl, ⟨nd, rfl⟩⟩; refine ⟨_, rfl, ?_⟩))
      go_ret
      exact ⟨by first | rfl | (simp; done) | (simp [*]; done), by repeat (first | exact Drawn0.refl _ | apply Drawn0.step)⟩
  · replace c5 := Bool.eq_false_iff.mpr c5
    subst c5
    have H1 : (if t259 = true then (some 1) else (if a0 < a1 then (some (-1)) else (if a0 > a1 then (some 1) else (some 0)))) = some r := by rw [if_neg (show ¬ (false = true) by decide)] at H; exact H
    clear H
    have H := H1
    clear H1
    by_cases c7 : t259 = true
    · subst c7
      have H1 : (some 1) = some r := by rw [if_pos rfl] at H; exact H
      clear H
      have H := H1
      clear H1
      obtain rfl := Option.some.inj H
      go_enter Try.func76, Try.ntmps76
      go_wp2_with (first | ((with_reducible refine gate_callee (f := 106) rfl ?_); refine goesL_ (some 8) rfl rfl Try.func106 (by kernel_rfl) rfl #[.int .i64 a0] rfl (by (try simp only [List.map_toArray, List.map_cons, List.map_nil]); first | done | rfl | (simp only [List.length_drop, List.length_take]; rfl)) ?_; (with_reducible refine (cmp_isNaN_int.calls a0 false _ A3.out).mono ?_); rintro e w' ⟨rfl, ⟨nd, rfl⟩⟩; refine ⟨_, rfl, ?_⟩) | ((with_reducible refine gate_callee (f := 106) rfl ?_); refine goesL_ (some 10) rfl rfl Try.func106 (by kernel_rfl) rfl #[.int .i64 a1] rfl (by (try simp only [List.map_toArray, List.map_cons, List.map_nil]); first | done | rfl | (simp only [List.length_drop, List.length_take]; rfl)) ?_; (with_reducible refine (cmp_isNaN_int.calls a1 true _ A4.out).mono ?_); rintro e w' ⟨rfl, ⟨nd, rfl⟩⟩; refine ⟨_, rfl, ?_⟩))
      go_ret
      exact ⟨by first | rfl | (simp; done) | (simp [*]; done), by repeat (first | exact Drawn0.refl _ | apply Drawn0.step)⟩
    · replace c7 := Bool.eq_false_iff.mpr c7
      subst c7
      have H1 : (if a0 < a1 then (some (-1)) else (if a0 > a1 then (some 1) else (some 0))) = some r := by rw [if_neg (show ¬ (false = true) by decide)] at H; exact H
      clear H
      have H := H1
      clear H1
      by_cases c8 : a0 < a1
      · rw [if_pos c8] at H
        have c8b0 : decide (a0 < a1) = true := decide_eq_true c8
        clear c8
        obtain rfl := Option.some.inj H
        go_enter Try.func76, Try.ntmps76
        go_wp2_with (first | ((with_reducible refine gate_callee (f := 106) rfl ?_); refine goesL_ (some 8) rfl rfl Try.func106 (by kernel_rfl) rfl #[.int .i64 a0] rfl (by (try simp only [List.map_toArray, List.map_cons, List.map_nil]); first | done | rfl | (simp only [List.length_drop, List.length_take]; rfl)) ?_; (with_reducible refine (cmp_isNaN_int.calls a0 false _ A3.out).mono ?_); rintro e w' ⟨rfl, ⟨nd, rfl⟩⟩; refine ⟨_, rfl, ?_⟩) | ((with_reducible refine gate_callee (f := 106) rfl ?_); refine goesL_ (some 10) rfl rfl Try.func106 (by kernel_rfl) rfl #[.int .i64 a1] rfl (by (try simp only [List.map_toArray, List.map_cons, List.map_nil]); first | done | rfl | (simp only [List.length_drop, List.length_take]; rfl)) ?_; (with_reducible refine (cmp_isNaN_int.calls a1 false _ A4.out).mono ?_); rintro e w' ⟨rfl, ⟨nd, rfl⟩⟩; refine ⟨_, rfl, ?_⟩))
        go_ret
        exact ⟨by first | rfl | (simp; done) | (simp [*]; done), by repeat (first | exact Drawn0.refl _ | apply Drawn0.step)⟩
      · rw [if_neg c8] at H
        have c8b0 : decide (a0 < a1) = false := decide_eq_false c8
        clear c8
        by_cases c9 : a0 > a1
        · rw [if_pos c9] at H
          have c9b0 : decide (a1 < a0) = true := decide_eq_true c9
          clear c9
          obtain rfl := Option.some.inj H
          go_enter Try.func76, Try.ntmps76
          go_wp2_with (first | ((with_reducible refine gate_callee (f := 106) rfl ?_); refine goesL_ (some 8) rfl rfl Try.func106 (by kernel_rfl) rfl #[.int .i64 a0] rfl (by (try simp only [List.map_toArray, List.map_cons, List.map_nil]); first | done | rfl | (simp only [List.length_drop, List.length_take]; rfl)) ?_; (with_reducible refine (cmp_isNaN_int.calls a0 false _ A3.out).mono ?_); rintro e w' ⟨rfl, ⟨nd, rfl⟩⟩; refine ⟨_, rfl, ?_⟩) | ((with_reducible refine gate_callee (f := 106) rfl ?_); refine goesL_ (some 10) rfl rfl Try.func106 (by kernel_rfl) rfl #[.int .i64 a1] rfl (by (try simp only [List.map_toArray, List.map_cons, List.map_nil]); first | done | rfl | (simp only [List.length_drop, List.length_take]; rfl)) ?_; (with_reducible refine (cmp_isNaN_int.calls a1 false _ A4.out).mono ?_); rintro e w' ⟨rfl, ⟨nd, rfl⟩⟩; refine ⟨_, rfl, ?_⟩))
          go_ret
          exact ⟨by first | rfl | (simp; done) | (simp [*]; done), by repeat (first | exact Drawn0.refl _ | apply Drawn0.step)⟩
        · rw [if_neg c9] at H
          have c9b0 : decide (a1 < a0) = false := decide_eq_false c9
          clear c9
          obtain rfl := Option.some.inj H
          go_enter Try.func76, Try.ntmps76
          go_wp2_with (first | ((with_reducible refine gate_callee (f := 106) rfl ?_); refine goesL_ (some 8) rfl rfl Try.func106 (by kernel_rfl) rfl #[.int .i64 a0] rfl (by (try simp only [List.map_toArray, List.map_cons, List.map_nil]); first | done | rfl | (simp only [List.length_drop, List.length_take]; rfl)) ?_; (with_reducible refine (cmp_isNaN_int.calls a0 false _ A3.out).mono ?_); rintro e w' ⟨rfl, ⟨nd, rfl⟩⟩; refine ⟨_, rfl, ?_⟩) | ((with_reducible refine gate_callee (f := 106) rfl ?_); refine goesL_ (some 10) rfl rfl Try.func106 (by kernel_rfl) rfl #[.int .i64 a1] rfl (by (try simp only [List.map_toArray, List.map_cons, List.map_nil]); first | done | rfl | (simp only [List.length_drop, List.length_take]; rfl)) ?_; (with_reducible refine (cmp_isNaN_int.calls a1 false _ A4.out).mono ?_); rintro e w' ⟨rfl, ⟨nd, rfl⟩⟩; refine ⟨_, rfl, ?_⟩))
          go_ret
          exact ⟨by first | rfl | (simp; done) | (simp [*]; done), by repeat (first | exact Drawn0.refl _ | apply Drawn0.step)⟩
end Go.Proofs.Ytpfddihcikiofaa.P
end

section
namespace Go.Proofs.Ytpfddihcikiofaa.P
open Go.RowKit Go.Proofs.YtpfddihcikiofaaW.PrintWords Go.Proofs.YtpfddihcikiofaaW.PrintLast Go.Proofs.YtpfddihcikiofaaW.PrintMore
attribute [local go_sem] max2_int min2_int max_two min_two max_three min_three max_four min_four
set_option linter.unusedVariables false
set_option linter.unusedSimpArgs false
def cmp_Or_int.l0 : Nat → Int → List Int → Int → Int → Option (Int)
  | 0, _, _, _, _ => none
  | k + 1, x3, x6, x7, x8 => if x8 < x7 then (if 0 ≤ x8 then (if x8 < (x6.length : Int) then (if (rd x6 x8) = x3 then (cmp_Or_int.l0 k x3 x6 x7 (wrap64 (x8 + 1))) else (some (rd x6 x8))) else (none)) else (none)) else (some x3)
def cmp_Or_int.f (k : Nat) (l0 : List Int) : Option (Int) := cmp_Or_int.l0 k 0 l0 (l0.length : Int) 0
set_option maxHeartbeats 8000000 in
set_option maxRecDepth 100000 in
theorem cmp_Or_int.calls (k : Nat) (A0 : Option Addr) (c0 : Nat) (l0 : List Int) (r : Int) (w : World) (hr0 : Kd.C (Kd.int .i64) w A0 l0.length l0) (hc0 : l0.length ≤ c0) (h : cmp_Or_int.f k l0 = some r) :
    Calls Try.prog 77 #[.slice A0 l0.length c0] w fun e w' => e = .returned (.int .i64 r) ∧ Drawn0 w w' := by
  have HR0 := Aside0.mk hr0
  have HC0 := Aside0.mk hc0
  clear hr0 hc0
  have H : (cmp_Or_int.l0 k 0 l0 (l0.length : Int) 0) = some r := h
  clear h
  have H' := Aside0.mk H
  clear H
  go_enter Try.func77, Try.ntmps77
  go_wp2
  go_loopg [8] k (fun kq v8 w' => ∃ (x8_1 : Int), v8 = .int .i64 x8_1 ∧ Aside0 (cmp_Or_int.l0 kq 0 l0 (l0.length : Int) x8_1 = some r) ∧ Aside0 (kq ≤ k) ∧ Drawn0 w w')
  case atStart => exact ⟨(0), (by first | rfl | (simp; done) | (simp [*]; done)), H', ⟨Nat.le_refl _⟩, by repeat (first | exact Drawn0.refl _ | apply Drawn0.step)⟩
  case round =>
    clear H'
    obtain ⟨x8_1, rfl, HA, HK1, ⟨m1, rfl⟩⟩ := hrel
    cases gk with
    | zero => exact absurd HA.out (by simp [cmp_Or_int.l0])
    | succ k1 =>
      have H := HA.out
      clear HA
      simp only [cmp_Or_int.l0] at H
      by_cases c2 : x8_1 < (l0.length : Int)
      · rw [if_pos c2] at H
        have c2b0 : decide (x8_1 < (l0.length : Int)) = true := decide_eq_true c2
        clear c2
        by_cases c3 : 0 ≤ x8_1
        · rw [if_pos c3] at H
          have c3b0 : decide (0 ≤ x8_1) = true := decide_eq_true c3
          clear c3
          by_cases c4 : x8_1 < (l0.length : Int)
          · rw [if_pos c4] at H
            have c4b0 : decide (x8_1 < (l0.length : Int)) = true := decide_eq_true c4
            clear c4
            by_cases c5 : (rd l0 x8_1) = 0
            · rw [if_pos c5] at H
              have c5b0 : ((rd l0 x8_1) == 0) = true := beq_iff_eq.mpr c5
              have c5b1 : ((rd l0 x8_1) != 0) = false := bne_eq_false_iff_eq.mpr c5
              clear c5
              have H' := Aside0.mk H
              clear H
              have p260 : 0 ≤ (x8_1 : Int) := of_decide_eq_true (by first | (with_reducible assumption) | assumption)
              have q260 : x8_1 < (l0.length : Int) := of_decide_eq_true (by first | (with_reducible assumption) | assumption)
              obtain ⟨ad260, e260, hx260_0⟩ := Kd.at_int HR0.out x8_1 p260 q260
              cases e260
              replace p260 := eq_true p260
              replace q260 := eq_true q260
              go_wp2
              go_roundg k1
              case measure => have := HK1.out; omega
              case rel => exact ⟨(wrap64 (x8_1 + 1)), (by first | rfl | (simp; done) | (simp [*]; done)), H', ⟨by have := HK1.out; omega⟩, by repeat (first | exact Drawn0.refl _ | apply Drawn0.step)⟩
            · rw [if_neg c5] at H
              have c5b0 : ((rd l0 x8_1) == 0) = false := beq_eq_false_iff_ne.mpr c5
              have c5b1 : ((rd l0 x8_1) != 0) = true := bne_iff_ne.mpr c5
              obtain rfl := Option.some.inj H
              have p260 : 0 ≤ (x8_1 : Int) := of_decide_eq_true (by first | (with_reducible assumption) | assumption)
              have q260 : x8_1 < (l0.length : Int) := of_decide_eq_true (by first | (with_reducible assumption) | assumption)
              obtain ⟨ad260, e260, hx260_0⟩ := Kd.at_int HR0.out x8_1 p260 q260
              cases e260
              replace p260 := eq_true p260
              replace q260 := eq_true q260
              go_wp2
              go_ret
              exact ⟨by first | rfl | (simp; done) | (simp [*]; done), by repeat (first | exact Drawn0.refl _ | apply Drawn0.step)⟩
          · rw [if_neg c4] at H
            exact absurd H (by simp)
        · rw [if_neg c3] at H
          exact absurd H (by simp)
      · rw [if_neg c2] at H
        have c2b0 : decide (x8_1 < (l0.length : Int)) = false := decide_eq_false c2
        clear c2
        obtain rfl := Option.some.inj H
        go_wp2
        go_ret
        exact ⟨by first | rfl | (simp; done) | (simp [*]; done), by repeat (first | exact Drawn0.refl _ | apply Drawn0.step)⟩
end Go.Proofs.Ytpfddihcikiofaa.P
end
