/- The law TermSame holds of every input. Part 3 of 3: PxTermClone, PxTermSame, GCmp, GTsRegs, GStore, GLaw06, GTermSame, LawTermSame. -/
import Derived.Test.YtpfddihcikiofaaZTermSame1
import Derived.Test.YtpfddihcikiofaaZTermSame2
import Derived.Test.YtpfddihcikiofaaRows
import Derived.WalkKit
import Derived.ProofKit
import Derived.OpenShut
import Derived.ShutString
import Derived.ChangeOld
import Derived.Below
import Derived.SizedLaws
section
-- Laid by a program of this session (wip/tools) over the kit's printer: the functions' own text. Lean checks it.
namespace Go.Proofs.Ytpfddihcikiofaa.P
open Go.RowKit Go.Proofs.YtpfddihcikiofaaW.PrintWords Go.Proofs.YtpfddihcikiofaaW.PrintLast Go.Proofs.YtpfddihcikiofaaW.PrintMore
attribute [local go_sem] max2_int min2_int max_two min_two max_three min_three max_four min_four   -- for this text's walks alone
set_option linter.unusedVariables false
set_option linter.unusedSimpArgs false

/-! ### term_Clone: function 38 -/
mutual
def term_Clone.l0 : Nat → List (S30) → Int → Int → Int → List (S30) → Option (Int × (List (S30)))
  | 0, _, _, _, _, _ => none
  | k + 1, x10, x11, x12, x196000, x196001 => if x12 < x11 then (if 0 ≤ x12 then (if x12 < (x10.length : Int) then ((term_Clone.f k ((rd_T30 x10 x12).f0) ((rd_T30 x10 x12).f1)).bind fun bt201 => (if x196001.length < 4398046511104 then (term_Clone.l0 k x10 x11 (wrap64 (x12 + 1)) x196000 (x196001 ++ [(⟨bt201.1, bt201.2⟩ : S30)])) else (none))) else (none)) else (none)) else (some (x196000, x196001))
def term_Clone.f : Nat → Int → List (S30) → Option (Int × (List (S30)))
  | 0, _, _ => none
  | k + 1, a0_0, l0_1 => (term_parts.f a0_0 l0_1).bind fun t196 => (term_Clone.l0 k t196 (t196.length : Int) 0 a0_0 ([] : List (S30)))
end
theorem term_Clone.mono_l : ∀ k, (∀ y0 y1, LeO (term_Clone.f k y0 y1) (term_Clone.f (k + 1) y0 y1)) ∧ (∀ y0 y1 y2 y3 y4, LeO (term_Clone.l0 k y0 y1 y2 y3 y4) (term_Clone.l0 (k + 1) y0 y1 y2 y3 y4))
  | 0 => ⟨fun _ _ r h => by simp [term_Clone.f] at h, fun _ _ _ _ _ r h => by simp [term_Clone.l0] at h⟩
  | k + 1 => by
    obtain ⟨ih0, ih1⟩ := term_Clone.mono_l k
    refine ⟨?_, ?_⟩
    · intro y0 y1
      unfold term_Clone.f
      repeat' first
      | (with_reducible exact ih0 _ _)
      | (with_reducible exact ih1 _ _ _ _ _)
      | (with_reducible exact LeO.refl _)
      | (with_reducible exact LeO.none _)
      | (with_reducible refine LeO.ite ?_ ?_)
      | (with_reducible refine LeO.bind ?_ (fun _ => ?_))
      | exact ih0 _ _
      | exact ih1 _ _ _ _ _
      | exact LeO.none _
      | refine LeO.ite ?_ ?_
      | refine LeO.bind ?_ (fun _ => ?_)
    · intro y0 y1 y2 y3 y4
      unfold term_Clone.l0
      repeat' first
      | (with_reducible exact ih0 _ _)
      | (with_reducible exact ih1 _ _ _ _ _)
      | (with_reducible exact LeO.refl _)
      | (with_reducible exact LeO.none _)
      | (with_reducible refine LeO.ite ?_ ?_)
      | (with_reducible refine LeO.bind ?_ (fun _ => ?_))
      | exact ih0 _ _
      | exact ih1 _ _ _ _ _
      | exact LeO.none _
      | refine LeO.ite ?_ ?_
      | refine LeO.bind ?_ (fun _ => ?_)
theorem term_Clone.mono : ∀ a0 a1 k, LeO (term_Clone.f k a0 a1) (term_Clone.f (k + 1) a0 a1) := by
  intro a0 a1 k
  obtain ⟨ih0, ih1⟩ := term_Clone.mono_l k
  exact ih0 a0 a1
def term_Clone.T5 : Bool × List (List Nat × List Nat) := (true, [([], []), ([0], [0]), ([], []), ([2], [2]), ([3], [3]), ([1, 4, 3], [1, 4]), ([0, 1, 2, 3, 4, 5], []), ([6, 5, 5, 0, 1, 2, 3, 4, 5], [5, 6])])
def term_Clone.B5 : List Nat := [0, 1, 0, 4, 12, 31, 63, 127]
theorem term_Clone.tab5 : rtab .any (opsOf Try.f38 5) = term_Clone.T5 := by kernel_rfl
theorem term_Clone.bits5 : waitsOk term_Clone.T5.2 term_Clone.B5 = true := by kernel_rfl
set_option maxHeartbeats 8000000 in
set_option maxRecDepth 100000 in
theorem term_Clone.calls (k : Nat) : ∀ (a0_0 : Int) (A0_1 : Option Addr) (c0_1 : Nat) (l0_1 : List (S30)) (r1 : Int) (r2 : List (S30)) (w : World) (hr0_1 : Kd.C k30 w A0_1 l0_1.length l0_1) (hc0_1 : l0_1.length ≤ c0_1) (h : term_Clone.f k a0_0 l0_1 = some (r1, r2)),
    Calls Try.prog 38 #[.agg #[.int .i64 a0_0, .slice A0_1 l0_1.length c0_1]] w fun e w' => ∃ v1_ : Value, e = .returned (.agg #[.int .i64 r1, v1_]) ∧ Kd.R k30 30 w' w.heap.size (fun _ => True) v1_ r2 ∧ Below w.heap.size w w' := by
  induction k using Nat.strongRecOn with
  | _ k ih =>
  intro a0_0 A0_1 c0_1 l0_1 r1 r2 w hr0_1 hc0_1 h
  cases k with
  | zero => exact absurd h (by simp [term_Clone.f])
  | succ k =>
  simp only [term_Clone.f] at h
  have hu30 := Try.underlying30
  have HR0_1 := Aside0.mk hr0_1
  have HC0_1 := Aside0.mk hc0_1
  clear hr0_1 hc0_1
  have HB := Aside0.mk (Below.refl w.heap.size w)
  have H : ((term_parts.f a0_0 l0_1).bind fun t196 => (term_Clone.l0 k t196 (t196.length : Int) 0 a0_0 ([] : List (S30)))) = some (r1, r2) := h
  clear h
  replace H := Option.bind_eq_some_iff.mp H
  obtain ⟨t196, A20, H⟩ := H
  replace H : (term_Clone.l0 k t196 (t196.length : Int) 0 a0_0 ([] : List (S30))) = some (r1, r2) := H
  have A2 := Aside0.mk A20
  clear A20
  have H' := Aside0.mk H
  clear H
  go_enter Try.func38, Try.ntmps38
  go_wp2_with (first | ((with_reducible refine gate_dst (N := 1) rfl ?_); refine box_event ?hg (N := 1) ?hd (cs := #[.int .i64 a0_0, .slice A0_1 l0_1.length c0_1]) (t := 30) ?hr ?_; (case hd => rfl); (case hg => rfl); (case hr => first | (go_simp; done) | (go_simp; rfl)); intro gb193 hg w3 hbox hb; have n0_ := Aside0.mk (below_step (by repeat (first | (with_reducible first | exact HB.out | apply below_alloc | apply pw_below_drewN | apply below_drew1) | exact HB.out)) hb); have n1_ := Aside0.mk (hbox); have n2_ := Aside0.mk ((by rw [hg]; exact (below_size (by repeat (first | (with_reducible first | exact HB.out | apply below_alloc | apply pw_below_drewN | apply below_drew1) | exact HB.out))) : w.heap.size ≤ gb193)); have n3_ := Aside0.mk ((by rw [hg]; exact (below_size (by repeat (first | (with_reducible first | exact HB.out | apply below_alloc | apply pw_below_drewN | apply below_drew1) | exact HB.out))) : w.heap.size ≤ gb193)); clear HB; have HB := n0_; have BK193 := n1_; have GW193 := n2_; have GE193 := n3_; clear n0_ n1_ n2_ n3_; clear hb hbox hg) | ((with_reducible refine gate_dst (N := 2) rfl ?_); refine box_event ?hg (N := 2) ?hd (cs := #[.int .i64 0, .slice none 0 0]) (t := 30) ?hr ?_; (case hd => rfl); (case hg => rfl); (case hr => first | (go_simp; done) | (go_simp; rfl)); intro gb194 hg w4 hbox hb; have n0_ := Aside0.mk (blk_below (g := gb193) (o := .cells #[.int .i64 a0_0, .slice A0_1 l0_1.length c0_1] 30 (0, 0)) (by (with_reducible repeat (first | refine blk_drewN ?_ _ | refine blk_drew ?_ | refine blk_alloc ?_ _)); exact BK193.out) hb); have n1_ := Aside0.mk (below_step (by repeat (first | (with_reducible first | exact HB.out | apply below_alloc | apply pw_below_drewN | apply below_drew1 | refine below_set ?_ GE193.out) | exact HB.out)) hb); have n2_ := Aside0.mk (hbox); have n3_ := Aside0.mk ((by rw [hg]; exact (below_size (by repeat (first | (with_reducible first | exact HB.out | apply below_alloc | apply pw_below_drewN | apply below_drew1 | refine below_set ?_ GE193.out) | exact HB.out))) : w.heap.size ≤ gb194)); have n4_ := Aside0.mk ((by rw [hg]; exact (below_size (by repeat (first | (with_reducible first | exact HB.out | apply below_alloc | apply pw_below_drewN | apply below_drew1 | refine below_set ?_ GE193.out) | exact HB.out))) : w.heap.size ≤ gb194)); have n5_ := Aside0.mk ((by rw [hg]; exact Nat.ne_of_lt (blk_lt (g := gb193) (o := .cells #[.int .i64 a0_0, .slice A0_1 l0_1.length c0_1] 30 (0, 0)) (by (with_reducible repeat (first | refine blk_drewN ?_ _ | refine blk_drew ?_ | refine blk_alloc ?_ _)); exact BK193.out)) : gb193 ≠ gb194)); have n6_ := Aside0.mk ((by rw [hg]; exact Nat.ne_of_gt (blk_lt (g := gb193) (o := .cells #[.int .i64 a0_0, .slice A0_1 l0_1.length c0_1] 30 (0, 0)) (by (with_reducible repeat (first | refine blk_drewN ?_ _ | refine blk_drew ?_ | refine blk_alloc ?_ _)); exact BK193.out)) : gb194 ≠ gb193)); clear BK193; clear HB; have BK193 := n0_; have HB := n1_; have BK194 := n2_; have GW194 := n3_; have GE194 := n4_; have NB193_194 := n5_; have NB194_193 := n6_; clear n0_ n1_ n2_ n3_ n4_ n5_ n6_; clear hb hbox hg; have hnb5 := NB193_194.out; have hnc5 := NB194_193.out; have hcz6_0 : w4.cell? ⟨gb193, 0, none⟩ = some (.int .i64 a0_0) := (blk_cell BK193.out 0).trans rfl; have hcz6_1 : w4.cell? ⟨gb193, 1, none⟩ = some (.slice A0_1 l0_1.length c0_1) := (blk_cell BK193.out 1).trans rfl; have hfz6_0 := blk_frozen BK193.out 0; have hfz6_1 := blk_frozen BK193.out 1) | ((with_reducible refine gate_dst (N := 3) rfl ?_); refine box_event ?hg (N := 3) ?hd (cs := #[.int .i64 0, .slice none 0 0]) (t := 30) ?hr ?_; (case hd => rfl); (case hg => rfl); (case hr => first | (go_simp; done) | (go_simp; rfl)); intro gb195 hg w7 hbox hb; have n0_ := Aside0.mk (blk_below (g := gb193) (o := .cells #[.int .i64 a0_0, .slice A0_1 l0_1.length c0_1] 30 (0, 0)) (by (with_reducible repeat (first | refine blk_drewN ?_ _ | refine blk_drew ?_ | refine blk_alloc ?_ _)); exact BK193.out) hb); have n1_ := Aside0.mk (blk_below (g := gb194) (o := .cells #[.int .i64 0, .slice none 0 0] 30 (0, 0)) (by (with_reducible repeat (first | refine blk_drewN ?_ _ | refine blk_drew ?_ | refine blk_alloc ?_ _)); exact BK194.out) hb); have n2_ := Aside0.mk (below_step (by repeat (first | (with_reducible first | exact HB.out | apply below_alloc | apply pw_below_drewN | apply below_drew1 | refine below_set ?_ GE193.out | refine below_set ?_ GE194.out) | exact HB.out)) hb); have n3_ := Aside0.mk (hbox); have n4_ := Aside0.mk ((by rw [hg]; exact (below_size (by repeat (first | (with_reducible first | exact HB.out | apply below_alloc | apply pw_below_drewN | apply below_drew1 | refine below_set ?_ GE193.out | refine below_set ?_ GE194.out) | exact HB.out))) : w.heap.size ≤ gb195)); have n5_ := Aside0.mk ((by rw [hg]; exact (below_size (by repeat (first | (with_reducible first | exact HB.out | apply below_alloc | apply pw_below_drewN | apply below_drew1 | refine below_set ?_ GE193.out | refine below_set ?_ GE194.out) | exact HB.out))) : w.heap.size ≤ gb195)); have n6_ := Aside0.mk ((by rw [hg]; exact Nat.ne_of_lt (blk_lt (g := gb193) (o := .cells #[.int .i64 a0_0, .slice A0_1 l0_1.length c0_1] 30 (0, 0)) (by (with_reducible repeat (first | refine blk_drewN ?_ _ | refine blk_drew ?_ | refine blk_alloc ?_ _)); exact BK193.out)) : gb193 ≠ gb195)); have n7_ := Aside0.mk ((by rw [hg]; exact Nat.ne_of_gt (blk_lt (g := gb193) (o := .cells #[.int .i64 a0_0, .slice A0_1 l0_1.length c0_1] 30 (0, 0)) (by (with_reducible repeat (first | refine blk_drewN ?_ _ | refine blk_drew ?_ | refine blk_alloc ?_ _)); exact BK193.out)) : gb195 ≠ gb193)); have n8_ := Aside0.mk ((by rw [hg]; exact Nat.ne_of_lt (blk_lt (g := gb194) (o := .cells #[.int .i64 0, .slice none 0 0] 30 (0, 0)) (by (with_reducible repeat (first | refine blk_drewN ?_ _ | refine blk_drew ?_ | refine blk_alloc ?_ _)); exact BK194.out)) : gb194 ≠ gb195)); have n9_ := Aside0.mk ((by rw [hg]; exact Nat.ne_of_gt (blk_lt (g := gb194) (o := .cells #[.int .i64 0, .slice none 0 0] 30 (0, 0)) (by (with_reducible repeat (first | refine blk_drewN ?_ _ | refine blk_drew ?_ | refine blk_alloc ?_ _)); exact BK194.out)) : gb195 ≠ gb194)); clear BK193; clear BK194; clear HB; have BK193 := n0_; have BK194 := n1_; have HB := n2_; have BK195 := n3_; have GW195 := n4_; have GE195 := n5_; have NB193_195 := n6_; have NB195_193 := n7_; have NB194_195 := n8_; have NB195_194 := n9_; clear n0_ n1_ n2_ n3_ n4_ n5_ n6_ n7_ n8_ n9_; clear hb hbox hg; have hnb8 := NB195_193.out; have hnc8 := NB193_195.out; have hnb9 := NB195_194.out; have hnc9 := NB194_195.out; have hcz10_0 : w7.cell? ⟨gb195, 0, none⟩ = some (.int .i64 0) := (blk_cell BK195.out 0).trans rfl; have hcz10_1 : w7.cell? ⟨gb195, 1, none⟩ = some (.slice none 0 0) := (blk_cell BK195.out 1).trans rfl; have hfz10_0 := blk_frozen BK195.out 0; have hfz10_1 := blk_frozen BK195.out 1) | ((with_reducible refine gate_store (t := 30) (p := 3) rfl ?_); refine store_event (t := 30) (p := 3) (v := ?vo_w11) (w1 := ((w7.setCell ⟨gb195, 0, none⟩ (.int .i64 a0_0)).setCell ⟨gb195, 1, none⟩ (.slice none 0 0))) ?hg ?ho ?hn ?hr ?_; (case ho => rfl); (case hg => rfl); (case hn => rfl); (case hr => first | (go_simp; done) | (go_simp; rfl)); intro w11 hw; have n0_ : Aside0 (w11.heap[gb193]? = some (.cells #[.int .i64 a0_0, .slice A0_1 l0_1.length c0_1] 30 (0, 0))) := ⟨(by rw [hw]; exact (by (with_reducible repeat (first | refine blk_drewN ?_ _ | refine blk_drew ?_ | refine blk_alloc ?_ _)); refine blk_far ?_ NB193_195.out _; (with_reducible repeat (first | refine blk_drewN ?_ _ | refine blk_drew ?_ | refine blk_alloc ?_ _)); refine blk_far ?_ NB193_195.out _; (with_reducible repeat (first | refine blk_drewN ?_ _ | refine blk_drew ?_ | refine blk_alloc ?_ _)); exact BK193.out))⟩; have n1_ : Aside0 (w11.heap[gb194]? = some (.cells #[.int .i64 0, .slice none 0 0] 30 (0, 0))) := ⟨(by rw [hw]; exact (by (with_reducible repeat (first | refine blk_drewN ?_ _ | refine blk_drew ?_ | refine blk_alloc ?_ _)); refine blk_far ?_ NB194_195.out _; (with_reducible repeat (first | refine blk_drewN ?_ _ | refine blk_drew ?_ | refine blk_alloc ?_ _)); refine blk_far ?_ NB194_195.out _; (with_reducible repeat (first | refine blk_drewN ?_ _ | refine blk_drew ?_ | refine blk_alloc ?_ _)); exact BK194.out))⟩; have n2_ : Aside0 (w11.heap[gb195]? = some (.cells #[.int .i64 a0_0, .slice none 0 0] 30 (0, 0))) := ⟨(by rw [hw]; exact (by (with_reducible repeat (first | refine blk_drewN ?_ _ | refine blk_drew ?_ | refine blk_alloc ?_ _)); refine blk_put (cs := #[.int .i64 a0_0, .slice none 0 0]) ?_ 1 _ rfl; (with_reducible repeat (first | refine blk_drewN ?_ _ | refine blk_drew ?_ | refine blk_alloc ?_ _)); refine blk_put (cs := #[.int .i64 0, .slice none 0 0]) ?_ 0 _ rfl; (with_reducible repeat (first | refine blk_drewN ?_ _ | refine blk_drew ?_ | refine blk_alloc ?_ _)); exact BK195.out))⟩; have n3_ : Aside0 (Below w.heap.size w w11) := ⟨(by rw [hw]; exact (by repeat (first | (with_reducible first | exact HB.out | apply below_alloc | apply pw_below_drewN | apply below_drew1 | refine below_set ?_ GE193.out | refine below_set ?_ GE194.out | refine below_set ?_ GE195.out) | exact HB.out)))⟩; clear hw; clear BK193; clear BK194; clear BK195; clear HB; have BK193 := n0_; have BK194 := n1_; have BK195 := n2_; have HB := n3_; clear n0_ n1_ n2_ n3_; have hcz12_0 : w11.cell? ⟨gb193, 0, none⟩ = some (.int .i64 a0_0) := (blk_cell BK193.out 0).trans rfl; have hcz12_1 : w11.cell? ⟨gb193, 1, none⟩ = some (.slice A0_1 l0_1.length c0_1) := (blk_cell BK193.out 1).trans rfl; have hfz12_0 := blk_frozen BK193.out 0; have hfz12_1 := blk_frozen BK193.out 1) | ((with_reducible refine gate_callee (f := 74) rfl ?_); refine goesL_ (some 10) rfl rfl Try.func74 (by kernel_rfl) rfl #[.agg #[.int .i64 a0_0, .slice A0_1 l0_1.length c0_1]] rfl (by (try simp only [List.map_toArray, List.map_cons, List.map_nil]); first | done | rfl | (simp only [List.length_drop, List.length_take]; rfl)) ?_; (with_reducible refine (term_parts.calls a0_0 (fun k_ => k_ < w.heap.size) _ _ l0_1 t196 _ ?side1 A2.out).mono ?_); (case side1 => exact Kd.V_mk HC0_1.out (Kd.F_below (Kd.C_F k30_heap HR0_1.out) (by repeat (first | (with_reducible first | exact HB.out | apply below_alloc | apply pw_below_drewN | apply below_drew1 | refine below_set ?_ GE193.out | refine below_set ?_ GE194.out | refine below_set ?_ GE195.out) | exact HB.out)))); rintro e w13 ⟨v197, rfl, ho0, hb⟩; refine ⟨_, rfl, ?_⟩; have n0_ := Aside0.mk (Kd.V_lower (Kd.V_mono (ok' := fun k_ => k_ ≠ gb193 ∧ k_ ≠ gb194 ∧ k_ ≠ gb195) ho0 (fun k_ hk_ => ⟨Or.elim hk_ (fun hs_ => fun e_ => Nat.not_le.2 hs_ (by rw [e_]; exact GW193.out)) (fun hn_ => (Kd.freshB (g := gb193) (o := .cells #[.int .i64 a0_0, .slice A0_1 l0_1.length c0_1] 30 (0, 0)) (by (with_reducible repeat (first | refine blk_drewN ?_ _ | refine blk_drew ?_ | refine blk_alloc ?_ _)); exact BK193.out) k_ hn_)), Or.elim hk_ (fun hs_ => fun e_ => Nat.not_le.2 hs_ (by rw [e_]; exact GW194.out)) (fun hn_ => (Kd.freshB (g := gb194) (o := .cells #[.int .i64 0, .slice none 0 0] 30 (0, 0)) (by (with_reducible repeat (first | refine blk_drewN ?_ _ | refine blk_drew ?_ | refine blk_alloc ?_ _)); exact BK194.out) k_ hn_)), Or.elim hk_ (fun hs_ => fun e_ => Nat.not_le.2 hs_ (by rw [e_]; exact GW195.out)) (fun hn_ => (Kd.freshB (g := gb195) (o := .cells #[.int .i64 a0_0, .slice none 0 0] 30 (0, 0)) (by (with_reducible repeat (first | refine blk_drewN ?_ _ | refine blk_drew ?_ | refine blk_alloc ?_ _)); exact BK195.out) k_ hn_))⟩)) (below_size (by repeat (first | (with_reducible first | exact HB.out | apply below_alloc | apply pw_below_drewN | apply below_drew1 | refine below_set ?_ GE193.out | refine below_set ?_ GE194.out | refine below_set ?_ GE195.out) | exact HB.out)))); have n1_ := Aside0.mk (blk_below (g := gb193) (o := .cells #[.int .i64 a0_0, .slice A0_1 l0_1.length c0_1] 30 (0, 0)) (by (with_reducible repeat (first | refine blk_drewN ?_ _ | refine blk_drew ?_ | refine blk_alloc ?_ _)); exact BK193.out) hb); have n2_ := Aside0.mk (blk_below (g := gb194) (o := .cells #[.int .i64 0, .slice none 0 0] 30 (0, 0)) (by (with_reducible repeat (first | refine blk_drewN ?_ _ | refine blk_drew ?_ | refine blk_alloc ?_ _)); exact BK194.out) hb); have n3_ := Aside0.mk (blk_below (g := gb195) (o := .cells #[.int .i64 a0_0, .slice none 0 0] 30 (0, 0)) (by (with_reducible repeat (first | refine blk_drewN ?_ _ | refine blk_drew ?_ | refine blk_alloc ?_ _)); exact BK195.out) hb); have n4_ := Aside0.mk (below_step (by repeat (first | (with_reducible first | exact HB.out | apply below_alloc | apply pw_below_drewN | apply below_drew1 | refine below_set ?_ GE193.out | refine below_set ?_ GE194.out | refine below_set ?_ GE195.out) | exact HB.out)) hb); clear BK193; clear BK194; clear BK195; clear HB; have HO198 := n0_; have BK193 := n1_; have BK194 := n2_; have BK195 := n3_; have HB := n4_; clear n0_ n1_ n2_ n3_ n4_; (try clear hb); (try clear hb2); (try clear hk); (try clear hi); (try clear ho0); obtain ⟨Ao14, co14, eo14⟩ := Kd.V_slice HO198.out; subst eo14))
  go_loopg [12] k (fun kq v12 w' => ∃ (x12_1 : Int) (x196001_1 : List (S30)) (u196001 : Value), v12 = .int .i64 x12_1 ∧ Aside0 (term_Clone.l0 kq t196 (t196.length : Int) x12_1 a0_0 x196001_1 = some (r1, r2)) ∧ Aside0 (kq ≤ k) ∧ Aside0 (Kd.V k30 30 w' w.heap.size (fun k_ => some k_ ≠ (u196001 : Value).ownBlock ∧ k_ ≠ gb193 ∧ k_ ≠ gb194 ∧ k_ ≠ gb195) (.slice Ao14 t196.length co14) t196) ∧ Aside0 (Kd.R k30 30 w' w.heap.size (fun k_ => k_ ≠ gb193 ∧ k_ ≠ gb194 ∧ k_ ≠ gb195) u196001 x196001_1) ∧ Aside0 (w'.heap[gb193]? = some (.cells #[.int .i64 a0_0, (.slice A0_1 l0_1.length c0_1)] 30 (0, 0))) ∧ Aside0 (w'.heap[gb194]? = some (.cells #[.int .i64 0, (.slice none 0 0)] 30 (0, 0))) ∧ Aside0 (w'.heap[gb195]? = some (.cells #[.int .i64 a0_0, u196001] 30 (0, 0))) ∧ Aside0 (Below w.heap.size w w'))
  case atStart => exact ⟨(0), (([] : List (S30))), (.slice none 0 0), (by first | rfl | (simp; done) | (simp [*]; done)), H', ⟨Nat.le_refl _⟩, ⟨by (with_reducible repeat (first | apply Kd.V_alloc | apply Kd.V_drewN | apply Kd.V_drew)); exact Kd.V_mono HO198.out (fun _ hk => ⟨(by simp [Value.ownBlock]), ⟨hk.1, ⟨hk.2.1, hk.2.2⟩⟩⟩)⟩, ⟨by first | exact Kd.R_nil _ _ _ _ _ | exact Kd.N_nil _ _ _ _ _ | exact Kd.V_nil _ _ _ _ _ | exact Kd.Q_nil _ _ _ _ _ | exact Kd.S_nil _ _ _ _ _⟩, ⟨by (with_reducible repeat (first | refine blk_drewN ?_ _ | refine blk_drew ?_ | refine blk_alloc ?_ _)); exact BK193.out⟩, ⟨by (with_reducible repeat (first | refine blk_drewN ?_ _ | refine blk_drew ?_ | refine blk_alloc ?_ _)); exact BK194.out⟩, ⟨by (with_reducible repeat (first | refine blk_drewN ?_ _ | refine blk_drew ?_ | refine blk_alloc ?_ _)); exact BK195.out⟩, ⟨by repeat (first | (with_reducible first | exact HB.out | apply below_alloc | apply pw_below_drewN | apply below_drew1 | refine below_set ?_ GE193.out | refine below_set ?_ GE194.out | refine below_set ?_ GE195.out) | exact HB.out)⟩⟩
  case round =>
    clear H'
    try clear p2
    try clear c3
    try clear c5
    try clear c7
    try clear c8
    try clear c9
    try clear hcz10_0
    try clear hcz10_1
    try clear hcz12_0
    try clear hcz12_1
    try clear hcz6_0
    try clear hcz6_1
    try clear hfz10_0
    try clear hfz10_1
    try clear hfz12_0
    try clear hfz12_1
    try clear hfz6_0
    try clear hfz6_1
    obtain ⟨x12_1, x196001_1, u196001, rfl, HA, HK1, HO_10, HO_196001, BK193, BK194, BK195, HB⟩ := hrel
    cases gk with
    | zero => exact absurd HA.out (by simp [term_Clone.l0])
    | succ k1 =>
      have H := HA.out
      clear HA
      simp only [term_Clone.l0] at H
      by_cases c15 : x12_1 < (t196.length : Int)
      · rw [if_pos c15] at H
        have c15b0 : decide (x12_1 < (t196.length : Int)) = true := decide_eq_true c15
        clear c15
        by_cases c16 : 0 ≤ x12_1
        · rw [if_pos c16] at H
          have c16b0 : decide (0 ≤ x12_1) = true := decide_eq_true c16
          clear c16
          by_cases c17 : x12_1 < (t196.length : Int)
          · rw [if_pos c17] at H
            have c17b0 : decide (x12_1 < (t196.length : Int)) = true := decide_eq_true c17
            clear c17
            replace H := Option.bind_eq_some_iff.mp H
            obtain ⟨⟨t201, t202⟩, A180, H⟩ := H
            replace H : (if x196001_1.length < 4398046511104 then (term_Clone.l0 k1 t196 (t196.length : Int) (wrap64 (x12_1 + 1)) a0_0 (x196001_1 ++ [(⟨t201, t202⟩ : S30)])) else (none)) = some (r1, r2) := H
            have A18 := Aside0.mk A180
            clear A180
            by_cases c19 : x196001_1.length < 4398046511104
            · rw [if_pos c19] at H
              have LMc19 := Aside0.mk c19
              clear c19
              obtain ⟨y205, hy205⟩ : ∃ y_ : List (S30), y_ = (x196001_1 ++ [(⟨t201, t202⟩ : S30)]) := ⟨_, rfl⟩
              replace H : (term_Clone.l0 k1 t196 (t196.length : Int) (wrap64 (x12_1 + 1)) a0_0 y205) = some (r1, r2) := by first | (rw [hy205]; with_reducible exact H) | (have H2_ := (Option.bind_some _ _).symm.trans H; rw [hy205]; with_reducible exact H2_) | (have H2_ := (Option.bind_some _ _).symm.trans H; with_reducible exact H2_) | with_reducible exact H | (rw [hy205]; exact H) | exact H
              have Ny205 := Aside0.mk hy205
              clear hy205
              have H' := Aside0.mk H
              clear H
              have p199 : 0 ≤ (x12_1 : Int) := of_decide_eq_true (by first | (with_reducible assumption) | assumption)
              have q199 : x12_1 < (t196.length : Int) := of_decide_eq_true (by first | (with_reducible assumption) | assumption)
              obtain ⟨ad199, A199_1, c199_1, e199, hx199_0, hx199_1, hl199_1, hi199_1⟩ := at_T30 (Kd.V_reads' HO_10.out).2.2 x12_1 p199 q199
              cases e199
              obtain ⟨ce199, hce199, hMe199, hcc199⟩ := Kd.V_get HO_10.out z30 x12_1 p199 (by first | exact q199 | exact of_decide_eq_true (by first | (with_reducible assumption) | assumption) | (have e_ := (Kd.V_reads' HO_10.out).1; omega))
              obtain ⟨ua199_1, uc199_1, rfl, ul199_1, ge199_1⟩ := k30_openF hMe199
              have hv199_1 := hcc199 1 _ rfl
              rw [add_field _ _ 1 (by omega)] at hv199_1
              replace hv199_1 := Option.some.inj (hv199_1.symm.trans hx199_1)
              injection hv199_1 with hva_ hvn_ hvc_
              rw [hva_] at ge199_1
              rw [hvc_] at ul199_1
              have HL199_1 := Aside0.mk (show Kd.V k30 30 _ w.heap.size _ _ ((rd_T30 t196 x12_1).f1) from Kd.V_mk ul199_1 ge199_1)
              clear hva_ hvn_ hvc_ ge199_1 ul199_1
              clear hcc199 hce199
              have HR199_1 := Aside0.mk hi199_1
              have HC199_1 := Aside0.mk hl199_1
              clear hi199_1 hl199_1
              replace p199 := eq_true p199
              replace q199 := eq_true q199
              try go_wp2_with (first | ((with_reducible refine gate_dst (N := 5) rfl ?_); refine box_event ?hg (N := 5) ?hd (cs := #[.int .i64 0, .slice none 0 0]) (t := 30) ?hr ?_; (case hd => rfl); (case hg => rfl); (case hr => first | (go_simp; done) | (go_simp; rfl)); intro gb200 hg w20 hbox hb; have n0_ := Aside0.mk (Kd.V_below (Kd.V_elderB (by (with_reducible repeat (first | apply Kd.V_alloc | apply Kd.V_drewN | apply Kd.V_drew)); exact HO_10.out) gb200 (Nat.le_of_eq hg.symm)) hb); have n1_ := Aside0.mk (Kd.R_below (Kd.R_elderB (by (with_reducible repeat (first | apply Kd.R_alloc | apply Kd.R_drewN | apply Kd.R_drew)); exact HO_196001.out) gb200 (Nat.le_of_eq hg.symm)) hb); have n2_ := Aside0.mk (Kd.V_below (Kd.V_elderB (by (with_reducible repeat (first | apply Kd.V_alloc | apply Kd.V_drewN | apply Kd.V_drew)); exact HL199_1.out) gb200 (Nat.le_of_eq hg.symm)) hb); have n3_ := Aside0.mk (blk_below (g := gb193) (o := .cells #[.int .i64 a0_0, .slice A0_1 l0_1.length c0_1] 30 (0, 0)) (by (with_reducible repeat (first | refine blk_drewN ?_ _ | refine blk_drew ?_ | refine blk_alloc ?_ _)); exact BK193.out) hb); have n4_ := Aside0.mk (blk_below (g := gb194) (o := .cells #[.int .i64 0, .slice none 0 0] 30 (0, 0)) (by (with_reducible repeat (first | refine blk_drewN ?_ _ | refine blk_drew ?_ | refine blk_alloc ?_ _)); exact BK194.out) hb); have n5_ := Aside0.mk (blk_below (g := gb195) (o := .cells #[.int .i64 a0_0, u196001] 30 (0, 0)) (by (with_reducible repeat (first | refine blk_drewN ?_ _ | refine blk_drew ?_ | refine blk_alloc ?_ _)); exact BK195.out) hb); have n6_ := Aside0.mk (Kd.C_below (by repeat (first | (with_reducible exact HR199_1.out) | (with_reducible refine Kd.C_alloc ?_ _) | (with_reducible refine Kd.C_drewN ?_ _) | (with_reducible refine Kd.C_drew ?_) | exact HR199_1.out)) hb); have n7_ := Aside0.mk (below_step (by repeat (first | (with_reducible first | exact HB.out | apply below_alloc | apply pw_below_drewN | apply below_drew1 | refine below_set ?_ GE193.out | refine below_set ?_ GE194.out | refine below_set ?_ GE195.out) | exact HB.out)) hb); have n8_ := Aside0.mk (hbox); have n9_ := Aside0.mk ((by rw [hg]; exact (below_size (by repeat (first | (with_reducible first | exact HB.out | apply below_alloc | apply pw_below_drewN | apply below_drew1 | refine below_set ?_ GE193.out | refine below_set ?_ GE194.out | refine below_set ?_ GE195.out) | exact HB.out))) : w.heap.size ≤ gb200)); have n10_ := Aside0.mk ((by rw [hg]; exact (below_size (by repeat (first | (with_reducible first | exact HB.out | apply below_alloc | apply pw_below_drewN | apply below_drew1 | refine below_set ?_ GE193.out | refine below_set ?_ GE194.out | refine below_set ?_ GE195.out) | exact HB.out))) : w.heap.size ≤ gb200)); have n11_ := Aside0.mk ((by rw [hg]; exact Nat.ne_of_lt (blk_lt (g := gb193) (o := .cells #[.int .i64 a0_0, .slice A0_1 l0_1.length c0_1] 30 (0, 0)) (by (with_reducible repeat (first | refine blk_drewN ?_ _ | refine blk_drew ?_ | refine blk_alloc ?_ _)); exact BK193.out)) : gb193 ≠ gb200)); have n12_ := Aside0.mk ((by rw [hg]; exact Nat.ne_of_gt (blk_lt (g := gb193) (o := .cells #[.int .i64 a0_0, .slice A0_1 l0_1.length c0_1] 30 (0, 0)) (by (with_reducible repeat (first | refine blk_drewN ?_ _ | refine blk_drew ?_ | refine blk_alloc ?_ _)); exact BK193.out)) : gb200 ≠ gb193)); have n13_ := Aside0.mk ((by rw [hg]; exact Nat.ne_of_lt (blk_lt (g := gb194) (o := .cells #[.int .i64 0, .slice none 0 0] 30 (0, 0)) (by (with_reducible repeat (first | refine blk_drewN ?_ _ | refine blk_drew ?_ | refine blk_alloc ?_ _)); exact BK194.out)) : gb194 ≠ gb200)); have n14_ := Aside0.mk ((by rw [hg]; exact Nat.ne_of_gt (blk_lt (g := gb194) (o := .cells #[.int .i64 0, .slice none 0 0] 30 (0, 0)) (by (with_reducible repeat (first | refine blk_drewN ?_ _ | refine blk_drew ?_ | refine blk_alloc ?_ _)); exact BK194.out)) : gb200 ≠ gb194)); have n15_ := Aside0.mk ((by rw [hg]; exact Nat.ne_of_lt (blk_lt (g := gb195) (o := .cells #[.int .i64 a0_0, u196001] 30 (0, 0)) (by (with_reducible repeat (first | refine blk_drewN ?_ _ | refine blk_drew ?_ | refine blk_alloc ?_ _)); exact BK195.out)) : gb195 ≠ gb200)); have n16_ := Aside0.mk ((by rw [hg]; exact Nat.ne_of_gt (blk_lt (g := gb195) (o := .cells #[.int .i64 a0_0, u196001] 30 (0, 0)) (by (with_reducible repeat (first | refine blk_drewN ?_ _ | refine blk_drew ?_ | refine blk_alloc ?_ _)); exact BK195.out)) : gb200 ≠ gb195)); clear HO_10; clear HO_196001; clear HL199_1; clear BK193; clear BK194; clear BK195; clear HR199_1; clear HB; have HO_10 := n0_; have HO_196001 := n1_; have HL199_1 := n2_; have BK193 := n3_; have BK194 := n4_; have BK195 := n5_; have HR199_1 := n6_; have HB := n7_; have BK200 := n8_; have GW200 := n9_; have GE200 := n10_; have NB193_200 := n11_; have NB200_193 := n12_; have NB194_200 := n13_; have NB200_194 := n14_; have NB195_200 := n15_; have NB200_195 := n16_; clear n0_ n1_ n2_ n3_ n4_ n5_ n6_ n7_ n8_ n9_ n10_ n11_ n12_ n13_ n14_ n15_ n16_; clear hb hbox hg; have hnb21 := NB200_193.out; have hnc21 := NB193_200.out; have hnb22 := NB200_194.out; have hnc22 := NB194_200.out; have hnb23 := NB200_195.out; have hnc23 := NB195_200.out; have hcz24_0 : w20.cell? ⟨gb200, 0, none⟩ = some (.int .i64 0) := (blk_cell BK200.out 0).trans rfl; have hcz24_1 : w20.cell? ⟨gb200, 1, none⟩ = some (.slice none 0 0) := (blk_cell BK200.out 1).trans rfl; have hfz24_0 := blk_frozen BK200.out 0; have hfz24_1 := blk_frozen BK200.out 1))
              have n0_ : Aside0 (Kd.V k30 30 ((w20.setCell ⟨gb200, 0, none⟩ (.int .i64 ((rd_T30 t196 x12_1).f0))).setCell ⟨gb200, 1, none⟩ (.slice A199_1 ((rd_T30 t196 x12_1).f1).length c199_1)) w.heap.size (fun k_ => some k_ ≠ (u196001 : Value).ownBlock ∧ k_ ≠ gb193 ∧ k_ ≠ gb194 ∧ k_ ≠ gb195 ∧ k_ ≠ gb200) (.slice (some ad199) t196.length co14) t196) := ⟨by (with_reducible repeat (first | apply Kd.V_alloc | apply Kd.V_drewN | apply Kd.V_drew)); exact Kd.V_mono (Kd.V_far (p := ⟨gb200, 1, none⟩) (Kd.V_far (p := ⟨gb200, 0, none⟩) (Kd.V_mono HO_10.out (fun k_ hk => (⟨hk, hk.2⟩ : _ ∧ k_ ≠ gb200))) (fun _ hk => hk.2) (.int .i64 ((rd_T30 t196 x12_1).f0))) (fun _ hk => hk.2) (.slice A199_1 ((rd_T30 t196 x12_1).f1).length c199_1)) (fun _ hk => ⟨hk.1.1.1, ⟨hk.1.1.2.1, ⟨hk.1.1.2.2.1, ⟨hk.1.1.2.2.2, hk.1.2⟩⟩⟩⟩)⟩
              have n1_ : Aside0 (Kd.R k30 30 ((w20.setCell ⟨gb200, 0, none⟩ (.int .i64 ((rd_T30 t196 x12_1).f0))).setCell ⟨gb200, 1, none⟩ (.slice A199_1 ((rd_T30 t196 x12_1).f1).length c199_1)) w.heap.size (fun k_ => k_ ≠ gb193 ∧ k_ ≠ gb194 ∧ k_ ≠ gb195 ∧ k_ ≠ gb200) u196001 x196001_1) := ⟨by (with_reducible repeat (first | apply Kd.R_alloc | apply Kd.R_drewN | apply Kd.R_drew)); exact Kd.R_mono (Kd.R_far (p := ⟨gb200, 1, none⟩) (Kd.R_far (p := ⟨gb200, 0, none⟩) (Kd.R_mono HO_196001.out (fun k_ hk => (⟨hk, hk.2⟩ : _ ∧ k_ ≠ gb200))) (fun _ hk => hk.2) (.int .i64 ((rd_T30 t196 x12_1).f0))) (fun _ hk => hk.2) (.slice A199_1 ((rd_T30 t196 x12_1).f1).length c199_1)) (fun _ hk => ⟨hk.1.1.1, ⟨hk.1.1.2.1, ⟨hk.1.1.2.2, hk.1.2⟩⟩⟩)⟩
              have n2_ : Aside0 (Kd.V k30 30 ((w20.setCell ⟨gb200, 0, none⟩ (.int .i64 ((rd_T30 t196 x12_1).f0))).setCell ⟨gb200, 1, none⟩ (.slice A199_1 ((rd_T30 t196 x12_1).f1).length c199_1)) w.heap.size (fun k_ => some k_ ≠ (u196001 : Value).ownBlock ∧ k_ ≠ gb193 ∧ k_ ≠ gb194 ∧ k_ ≠ gb195 ∧ k_ ≠ gb200) (.slice A199_1 ((rd_T30 t196 x12_1).f1).length c199_1) ((rd_T30 t196 x12_1).f1)) := ⟨by (with_reducible repeat (first | apply Kd.V_alloc | apply Kd.V_drewN | apply Kd.V_drew)); exact Kd.V_mono (Kd.V_far (p := ⟨gb200, 1, none⟩) (Kd.V_far (p := ⟨gb200, 0, none⟩) (Kd.V_mono HL199_1.out (fun k_ hk => (⟨hk, hk.2⟩ : _ ∧ k_ ≠ gb200))) (fun _ hk => hk.2) (.int .i64 ((rd_T30 t196 x12_1).f0))) (fun _ hk => hk.2) (.slice A199_1 ((rd_T30 t196 x12_1).f1).length c199_1)) (fun _ hk => ⟨hk.1.1.1, ⟨hk.1.1.2.1, ⟨hk.1.1.2.2.1, ⟨hk.1.1.2.2.2, hk.1.2⟩⟩⟩⟩)⟩
              have n3_ : Aside0 (((w20.setCell ⟨gb200, 0, none⟩ (.int .i64 ((rd_T30 t196 x12_1).f0))).setCell ⟨gb200, 1, none⟩ (.slice A199_1 ((rd_T30 t196 x12_1).f1).length c199_1)).heap[gb193]? = some (.cells #[.int .i64 a0_0, .slice A0_1 l0_1.length c0_1] 30 (0, 0))) := ⟨by (with_reducible repeat (first | refine blk_drewN ?_ _ | refine blk_drew ?_ | refine blk_alloc ?_ _)); refine blk_far ?_ NB193_200.out _; (with_reducible repeat (first | refine blk_drewN ?_ _ | refine blk_drew ?_ | refine blk_alloc ?_ _)); refine blk_far ?_ NB193_200.out _; (with_reducible repeat (first | refine blk_drewN ?_ _ | refine blk_drew ?_ | refine blk_alloc ?_ _)); exact BK193.out⟩
              have n4_ : Aside0 (((w20.setCell ⟨gb200, 0, none⟩ (.int .i64 ((rd_T30 t196 x12_1).f0))).setCell ⟨gb200, 1, none⟩ (.slice A199_1 ((rd_T30 t196 x12_1).f1).length c199_1)).heap[gb194]? = some (.cells #[.int .i64 0, .slice none 0 0] 30 (0, 0))) := ⟨by (with_reducible repeat (first | refine blk_drewN ?_ _ | refine blk_drew ?_ | refine blk_alloc ?_ _)); refine blk_far ?_ NB194_200.out _; (with_reducible repeat (first | refine blk_drewN ?_ _ | refine blk_drew ?_ | refine blk_alloc ?_ _)); refine blk_far ?_ NB194_200.out _; (with_reducible repeat (first | refine blk_drewN ?_ _ | refine blk_drew ?_ | refine blk_alloc ?_ _)); exact BK194.out⟩
              have n5_ : Aside0 (((w20.setCell ⟨gb200, 0, none⟩ (.int .i64 ((rd_T30 t196 x12_1).f0))).setCell ⟨gb200, 1, none⟩ (.slice A199_1 ((rd_T30 t196 x12_1).f1).length c199_1)).heap[gb195]? = some (.cells #[.int .i64 a0_0, u196001] 30 (0, 0))) := ⟨by (with_reducible repeat (first | refine blk_drewN ?_ _ | refine blk_drew ?_ | refine blk_alloc ?_ _)); refine blk_far ?_ NB195_200.out _; (with_reducible repeat (first | refine blk_drewN ?_ _ | refine blk_drew ?_ | refine blk_alloc ?_ _)); refine blk_far ?_ NB195_200.out _; (with_reducible repeat (first | refine blk_drewN ?_ _ | refine blk_drew ?_ | refine blk_alloc ?_ _)); exact BK195.out⟩
              have n6_ : Aside0 (((w20.setCell ⟨gb200, 0, none⟩ (.int .i64 ((rd_T30 t196 x12_1).f0))).setCell ⟨gb200, 1, none⟩ (.slice A199_1 ((rd_T30 t196 x12_1).f1).length c199_1)).heap[gb200]? = some (.cells #[.int .i64 ((rd_T30 t196 x12_1).f0), .slice A199_1 ((rd_T30 t196 x12_1).f1).length c199_1] 30 (0, 0))) := ⟨by (with_reducible repeat (first | refine blk_drewN ?_ _ | refine blk_drew ?_ | refine blk_alloc ?_ _)); refine blk_put (cs := #[.int .i64 ((rd_T30 t196 x12_1).f0), .slice none 0 0]) ?_ 1 _ rfl; (with_reducible repeat (first | refine blk_drewN ?_ _ | refine blk_drew ?_ | refine blk_alloc ?_ _)); refine blk_put (cs := #[.int .i64 0, .slice none 0 0]) ?_ 0 _ rfl; (with_reducible repeat (first | refine blk_drewN ?_ _ | refine blk_drew ?_ | refine blk_alloc ?_ _)); exact BK200.out⟩
              have n7_ : Aside0 (Below w.heap.size w ((w20.setCell ⟨gb200, 0, none⟩ (.int .i64 ((rd_T30 t196 x12_1).f0))).setCell ⟨gb200, 1, none⟩ (.slice A199_1 ((rd_T30 t196 x12_1).f1).length c199_1))) := ⟨by repeat (first | (with_reducible first | exact HB.out | apply below_alloc | apply pw_below_drewN | apply below_drew1 | refine below_set ?_ GE193.out | refine below_set ?_ GE194.out | refine below_set ?_ GE195.out | refine below_set ?_ GE200.out) | exact HB.out)⟩
              (try clear HO_10)
              (try clear HO_196001)
              (try clear HL199_1)
              (try clear BK193)
              (try clear BK194)
              (try clear BK195)
              (try clear BK200)
              (try clear HB)
              generalize ((w20.setCell ⟨gb200, 0, none⟩ (.int .i64 ((rd_T30 t196 x12_1).f0))).setCell ⟨gb200, 1, none⟩ (.slice A199_1 ((rd_T30 t196 x12_1).f1).length c199_1)) = w25 at n0_ n1_ n2_ n3_ n4_ n5_ n6_ n7_ ⊢
              have HO_10 := n0_
              have HO_196001 := n1_
              have HL199_1 := n2_
              have BK193 := n3_
              have BK194 := n4_
              have BK195 := n5_
              have BK200 := n6_
              have HB := n7_
              clear n0_ n1_ n2_ n3_ n4_ n5_ n6_ n7_
              have n0_ := Aside0.mk (Kd.V_drew HO_10.out)
              have n1_ := Aside0.mk (Kd.R_drew HO_196001.out)
              have n2_ := Aside0.mk (Kd.V_drew HL199_1.out)
              have n3_ := Aside0.mk (blk_drew BK193.out)
              have n4_ := Aside0.mk (blk_drew BK194.out)
              have n5_ := Aside0.mk (blk_drew BK195.out)
              have n6_ := Aside0.mk (blk_drew BK200.out)
              have n7_ := Aside0.mk (below_drew1 HB.out)
              clear HO_10
              clear HO_196001
              clear HL199_1
              clear BK193
              clear BK194
              clear BK195
              clear BK200
              clear HB
              have HO_10 := n0_
              have HO_196001 := n1_
              have HL199_1 := n2_
              have BK193 := n3_
              have BK194 := n4_
              have BK195 := n5_
              have BK200 := n6_
              have HB := n7_
              clear n0_ n1_ n2_ n3_ n4_ n5_ n6_ n7_
              refine start_ (n := 8) (S := fun w' => w'.cell? ⟨gb195, 0, none⟩ = some (.int .i64 a0_0) ∧ w'.cell? ⟨gb195, 1, none⟩ = some (u196001) ∧ w'.cell? ⟨gb200, 0, none⟩ = some (.int .i64 ((rd_T30 t196 x12_1).f0)) ∧ w'.cell? ⟨gb200, 1, none⟩ = some (.slice A199_1 ((rd_T30 t196 x12_1).f1).length c199_1)) (ds := [7]) #[false, false, false, false, false, false, false, false] (by kernel_rfl) rfl rfl ⟨(blk_cell BK195.out 0).trans rfl, (blk_cell BK195.out 1).trans rfl, (blk_cell BK200.out 0).trans rfl, (blk_cell BK200.out 1).trans rfl⟩ (fun hHeld => ?_); refine with_tabW term_Clone.tab5 term_Clone.bits5 (fun HT_ HW_ => ?_)
              generalize w25.drew = w26 at HO_10 HO_196001 HL199_1 BK193 BK194 BK195 BK200 HB hHeld ⊢
              refine pure_ (i := 0) (N := some 16) (v := ?_) (a' := ?_) #[true, false, false, false, false, false, false, false] rfl rfl (any_of HT_.out (by kernel_rfl)) (fun _ _ _ h => h) (Or.inl ⟨by rfl, ?_⟩) ?_ ?_
              rotate_left
              · intro w'
                go_simp
                with_reducible rfl
              rotate_left
              · simp only [Act.put, List.setIfInBounds_toArray, List.set_cons_zero, List.set_cons_succ, i64_w, i32_w]
                rfl
              refine take_ (i := 1) (N := some 17) (v := ?_) (a' := ?_) #[true, true, false, false, false, false, false, false] rfl rfl (take_ofW HT_.out HW_.out (by kernel_rfl)) (fun _ _ _ h => h) (Or.inl ⟨by rfl, ?_⟩) hHeld ?_ ?_
              rotate_left
              · rintro w' ⟨s0, s1, s2, s3⟩
                go_simp
                with_reducible rfl
              rotate_left
              · simp only [Act.put, List.setIfInBounds_toArray, List.set_cons_zero, List.set_cons_succ, i64_w, i32_w]
                rfl
              refine take_ (i := 2) (N := some 18) (v := ?_) (a' := ?_) #[true, true, true, false, false, false, false, false] rfl rfl (take_ofW HT_.out HW_.out (by kernel_rfl)) (fun _ _ _ h => h) (Or.inl ⟨by rfl, ?_⟩) hHeld ?_ ?_
              rotate_left
              · rintro w' ⟨s0, s1, s2, s3⟩
                go_simp
                with_reducible rfl
              rotate_left
              · simp only [Act.put, List.setIfInBounds_toArray, List.set_cons_zero, List.set_cons_succ, i64_w, i32_w]
                rfl
              refine one_ (i := 3) (N := some 19) #[true, true, true, true, false, false, false, false] rfl rfl (one_of HT_.out (by kernel_rfl)) (by decide) (fun K hK => ?_)
              refine goes_ Try.func38 (by kernel_rfl) rfl #[.agg #[.int .i64 ((rd_T30 t196 x12_1).f0), .slice A199_1 ((rd_T30 t196 x12_1).f1).length c199_1]] (by rfl) rfl rfl (by (try simp only [List.map_toArray, List.map_cons, List.map_nil]); first | done | rfl | (simp only [List.length_drop, List.length_take]; rfl)) ?_
              with_reducible refine (ih k1 (by have := HK1.out; omega) ((rd_T30 t196 x12_1).f0) _ _ ((rd_T30 t196 x12_1).f1) t201 t202 _ ?side1 ?side2 A18.out).mono ?_
              (case side1 => repeat (first | exact ((Kd.V_reads' (by (with_reducible repeat (first | apply Kd.V_alloc | apply Kd.V_drewN | apply Kd.V_drew)); exact HL199_1.out)).2.2) | (with_reducible refine Kd.C_alloc ?_ _) | (with_reducible refine Kd.C_drewN ?_ _) | (with_reducible refine Kd.C_drew ?_)))
              (case side2 => exact HC199_1.out)
              rintro e w27 ⟨v203, rfl, ho0, hb⟩
              refine ⟨_, rfl, ?_⟩
              have n0_ := Aside0.mk (Kd.V_elder' (by (with_reducible repeat (first | apply Kd.V_alloc | apply Kd.V_drewN | apply Kd.V_drew)); exact HO_10.out) (Kd.R_base ho0) hb)
              have n1_ := Aside0.mk (Kd.R_elder' (by (with_reducible repeat (first | apply Kd.R_alloc | apply Kd.R_drewN | apply Kd.R_drew)); exact HO_196001.out) (Kd.R_base ho0) hb)
              have n2_ := Aside0.mk (Kd.V_elder' (by (with_reducible repeat (first | apply Kd.V_alloc | apply Kd.V_drewN | apply Kd.V_drew)); exact HL199_1.out) (Kd.R_base ho0) hb)
              have n3_ := Aside0.mk (Kd.R_lower (Kd.R_newB (Kd.R_newB (Kd.R_newB (Kd.R_newB (Kd.R_new' ho0 (Kd.R_lt (by (with_reducible repeat (first | apply Kd.R_alloc | apply Kd.R_drewN | apply Kd.R_drew)); exact HO_196001.out))) (g := gb193) (o := .cells #[.int .i64 a0_0, .slice A0_1 l0_1.length c0_1] 30 (0, 0)) (by (with_reducible repeat (first | refine blk_drewN ?_ _ | refine blk_drew ?_ | refine blk_alloc ?_ _)); exact BK193.out)) (g := gb194) (o := .cells #[.int .i64 0, .slice none 0 0] 30 (0, 0)) (by (with_reducible repeat (first | refine blk_drewN ?_ _ | refine blk_drew ?_ | refine blk_alloc ?_ _)); exact BK194.out)) (g := gb195) (o := .cells #[.int .i64 a0_0, u196001] 30 (0, 0)) (by (with_reducible repeat (first | refine blk_drewN ?_ _ | refine blk_drew ?_ | refine blk_alloc ?_ _)); exact BK195.out)) (g := gb200) (o := .cells #[.int .i64 ((rd_T30 t196 x12_1).f0), .slice A199_1 ((rd_T30 t196 x12_1).f1).length c199_1] 30 (0, 0)) (by (with_reducible repeat (first | refine blk_drewN ?_ _ | refine blk_drew ?_ | refine blk_alloc ?_ _)); exact BK200.out)) (below_size (by repeat (first | (with_reducible first | exact HB.out | apply below_alloc | apply pw_below_drewN | apply below_drew1 | refine below_set ?_ GE193.out | refine below_set ?_ GE194.out | refine below_set ?_ GE195.out | refine below_set ?_ GE200.out) | exact HB.out))))
              have n4_ := Aside0.mk (blk_below (g := gb193) (o := .cells #[.int .i64 a0_0, .slice A0_1 l0_1.length c0_1] 30 (0, 0)) (by (with_reducible repeat (first | refine blk_drewN ?_ _ | refine blk_drew ?_ | refine blk_alloc ?_ _)); exact BK193.out) hb)
              have n5_ := Aside0.mk (blk_below (g := gb194) (o := .cells #[.int .i64 0, .slice none 0 0] 30 (0, 0)) (by (with_reducible repeat (first | refine blk_drewN ?_ _ | refine blk_drew ?_ | refine blk_alloc ?_ _)); exact BK194.out) hb)
              have n6_ := Aside0.mk (blk_below (g := gb195) (o := .cells #[.int .i64 a0_0, u196001] 30 (0, 0)) (by (with_reducible repeat (first | refine blk_drewN ?_ _ | refine blk_drew ?_ | refine blk_alloc ?_ _)); exact BK195.out) hb)
              have n7_ := Aside0.mk (blk_below (g := gb200) (o := .cells #[.int .i64 ((rd_T30 t196 x12_1).f0), .slice A199_1 ((rd_T30 t196 x12_1).f1).length c199_1] 30 (0, 0)) (by (with_reducible repeat (first | refine blk_drewN ?_ _ | refine blk_drew ?_ | refine blk_alloc ?_ _)); exact BK200.out) hb)
              have n8_ := Aside0.mk (below_step (by repeat (first | (with_reducible first | exact HB.out | apply below_alloc | apply pw_below_drewN | apply below_drew1 | refine below_set ?_ GE193.out | refine below_set ?_ GE194.out | refine below_set ?_ GE195.out | refine below_set ?_ GE200.out) | exact HB.out)) hb)
              clear HO_10
              clear HO_196001
              clear HL199_1
              clear BK193
              clear BK194
              clear BK195
              clear BK200
              clear HB
              have HO_10 := n0_
              have HO_196001 := n1_
              have HL199_1 := n2_
              have HO204 := n3_
              have BK193 := n4_
              have BK194 := n5_
              have BK195 := n6_
              have BK200 := n7_
              have HB := n8_
              clear n0_ n1_ n2_ n3_ n4_ n5_ n6_ n7_ n8_
              (try clear hb)
              (try clear hb2)
              (try clear hk)
              (try clear hi)
              (try clear ho0)
              obtain ⟨Ao29, co29, eo29⟩ := Kd.R_slice HO204.out
              (first | subst eo29 | (injection eo29 with f1_ f2_ f3_; have f4_ := f1_.symm; have f5_ := f3_.symm; clear f1_ f2_ f3_; subst f4_; subst f5_))
              refine hK.out _ _ ⟨(blk_cell BK195.out 0).trans rfl, (blk_cell BK195.out 1).trans rfl, (blk_cell BK200.out 0).trans rfl, (blk_cell BK200.out 1).trans rfl⟩ (fun hHeld => ?_)
              clear hK K
              refine norm_ (a' := ?_) ?_ ?_
              rotate_left
              · show Act.put _ (some 19) _ = _
                simp only [Act.put, List.setIfInBounds_toArray, List.set_cons_zero, List.set_cons_succ, i64_w, i32_w]
                rfl
              refine one_ (i := 4) (N := some 20) #[true, true, true, true, true, false, false, false] rfl rfl (one_of HT_.out (by kernel_rfl)) (by decide) (fun K hK => ?_)
              refine value_ (w1 := ?_) (v := ?_) (by rfl) rfl ?_ ?_
              rotate_left 2
              · go_simp
                constructor
                · rfl
                · rfl
              refine hK.out _ _ ⟨(blk_cell (blk_alloc BK195.out _) 0).trans rfl, (blk_cell (blk_alloc BK195.out _) 1).trans rfl, (blk_cell (blk_alloc BK200.out _) 0).trans rfl, (blk_cell (blk_alloc BK200.out _) 1).trans rfl⟩ (fun hHeld => ?_)
              clear hK K
              refine norm_ (a' := ?_) ?_ ?_
              rotate_left
              · show Act.put _ (some 20) _ = _
                simp only [Act.put, List.setIfInBounds_toArray, List.set_cons_zero, List.set_cons_succ, i64_w, i32_w]
                rfl
              refine one_ (i := 5) (N := some 21) #[true, true, true, true, true, true, false, false] rfl rfl (one_of HT_.out (by kernel_rfl)) (by decide) (fun K hK => ?_)
              refine Kd.R_append_step k30 (w0 := w) w.heap.size (by rfl) (.tmp 17) (.tmp 20) 28 30 (.agg #[(.int .i64 0), (.slice none 0 0)]) 32 rfl Try.underlying28 info30 rfl (by decide) (by omega) u196001 x196001_1 (⟨t201, t202⟩ : S30) [.int .i64 t201, .slice Ao29 t202.length co29] (fun k_ => k_ ≠ gb193 ∧ k_ ≠ gb194 ∧ k_ ≠ gb195 ∧ k_ ≠ gb200) (fun k_ => ((fun k_ => k_ ≠ gb193 ∧ k_ ≠ gb194 ∧ k_ ≠ gb195 ∧ k_ ≠ gb200)) k_ ∧ some k_ ≠ (u196001 : Value).ownBlock) rfl rfl ?aP (fun _ hk => hk) ?aF ?aO ?aB ?aS ?aL ?_
              (case aP => exact k30_mkM _ _ _ (⟨t201, t202⟩ : S30) (Kd.R_mono (HO204.out) (fun k_ hk => ⟨⟨hk.1.1.1.2, ⟨hk.1.1.2, ⟨hk.1.2, hk.2⟩⟩⟩, hk.1.1.1.1.2⟩)))
              (case aB => exact (by repeat (first | (with_reducible first | exact HB.out | apply below_alloc | apply pw_below_drewN | apply below_drew1 | refine below_set ?_ GE193.out | refine below_set ?_ GE194.out | refine below_set ?_ GE195.out | refine below_set ?_ GE200.out) | exact HB.out)))
              (case aF => exact (fun k_ hk => ⟨Kd.freshB (g := gb193) (o := .cells #[.int .i64 a0_0, .slice A0_1 l0_1.length c0_1] 30 (0, 0)) (by (with_reducible repeat (first | refine blk_drewN ?_ _ | refine blk_drew ?_ | refine blk_alloc ?_ _)); exact BK193.out) k_ hk, Kd.freshB (g := gb194) (o := .cells #[.int .i64 0, .slice none 0 0] 30 (0, 0)) (by (with_reducible repeat (first | refine blk_drewN ?_ _ | refine blk_drew ?_ | refine blk_alloc ?_ _)); exact BK194.out) k_ hk, Kd.freshB (g := gb195) (o := .cells #[.int .i64 a0_0, u196001] 30 (0, 0)) (by (with_reducible repeat (first | refine blk_drewN ?_ _ | refine blk_drew ?_ | refine blk_alloc ?_ _)); exact BK195.out) k_ hk, Kd.freshB (g := gb200) (o := .cells #[.int .i64 ((rd_T30 t196 x12_1).f0), .slice A199_1 ((rd_T30 t196 x12_1).f1).length c199_1] 30 (0, 0)) (by (with_reducible repeat (first | refine blk_drewN ?_ _ | refine blk_drew ?_ | refine blk_alloc ?_ _)); exact BK200.out) k_ hk⟩))
              (case aO => exact (by (with_reducible repeat (first | apply Kd.R_alloc | apply Kd.R_drewN | apply Kd.R_drew)); exact Kd.R_mono HO_196001.out (fun _ hk => ⟨hk.1.1, ⟨hk.1.2.1, ⟨hk.1.2.2.1, hk.1.2.2.2⟩⟩⟩)))
              (case aS => exact (below_size (by repeat (first | (with_reducible first | exact HB.out | apply below_alloc | apply pw_below_drewN | apply below_drew1 | refine below_set ?_ GE193.out | refine below_set ?_ GE194.out | refine below_set ?_ GE195.out | refine below_set ?_ GE200.out) | exact HB.out))))
              (case aL => have := LMc19.out; omega)
              intro v206 w28 ho hb hg hat
              rw [← Ny205.out] at ho
              have n0_ := Aside0.mk (Kd.V_afterv (ok := (fun k_ => some k_ ≠ (.slice Ao29 t202.length co29 : Value).ownBlock ∧ k_ ≠ gb193 ∧ k_ ≠ gb194 ∧ k_ ≠ gb195 ∧ k_ ≠ gb200)) (by (with_reducible repeat (first | apply Kd.V_alloc | apply Kd.V_drewN | apply Kd.V_drew)); exact Kd.V_mono HO_10.out (fun _ hk => ⟨⟨hk.2, ⟨hk.1.2.1, ⟨hk.1.2.2.1, ⟨hk.1.2.2.2.1, hk.1.2.2.2.2⟩⟩⟩⟩, hk.1.1⟩)) hg hat)
              have n1_ := Aside0.mk (blk_grown (g := gb193) (o := .cells #[.int .i64 a0_0, .slice A0_1 l0_1.length c0_1] 30 (0, 0)) (by (with_reducible repeat (first | refine blk_drewN ?_ _ | refine blk_drew ?_ | refine blk_alloc ?_ _)); exact BK193.out) hg (Kd.R_away HO_196001.out (fun _ hk => hk.1.1)))
              have n2_ := Aside0.mk (blk_grown (g := gb194) (o := .cells #[.int .i64 0, .slice none 0 0] 30 (0, 0)) (by (with_reducible repeat (first | refine blk_drewN ?_ _ | refine blk_drew ?_ | refine blk_alloc ?_ _)); exact BK194.out) hg (Kd.R_away HO_196001.out (fun _ hk => hk.1.2.1)))
              have n3_ := Aside0.mk (blk_grown (g := gb195) (o := .cells #[.int .i64 a0_0, u196001] 30 (0, 0)) (by (with_reducible repeat (first | refine blk_drewN ?_ _ | refine blk_drew ?_ | refine blk_alloc ?_ _)); exact BK195.out) hg (Kd.R_away HO_196001.out (fun _ hk => hk.1.2.2.1)))
              have n4_ := Aside0.mk (Kd.V_afterv (ok := (fun k_ => some k_ ≠ (.slice Ao29 t202.length co29 : Value).ownBlock ∧ k_ ≠ gb193 ∧ k_ ≠ gb194 ∧ k_ ≠ gb195 ∧ k_ ≠ gb200)) (by (with_reducible repeat (first | apply Kd.V_alloc | apply Kd.V_drewN | apply Kd.V_drew)); exact Kd.V_mono HL199_1.out (fun _ hk => ⟨⟨hk.2, ⟨hk.1.2.1, ⟨hk.1.2.2.1, ⟨hk.1.2.2.2.1, hk.1.2.2.2.2⟩⟩⟩⟩, hk.1.1⟩)) hg hat)
              have n5_ := Aside0.mk (blk_grown (g := gb200) (o := .cells #[.int .i64 ((rd_T30 t196 x12_1).f0), .slice A199_1 ((rd_T30 t196 x12_1).f1).length c199_1] 30 (0, 0)) (by (with_reducible repeat (first | refine blk_drewN ?_ _ | refine blk_drew ?_ | refine blk_alloc ?_ _)); exact BK200.out) hg (Kd.R_away HO_196001.out (fun _ hk => hk.1.2.2.2)))
              have n6_ := Aside0.mk (hb)
              have n7_ := Aside0.mk (ho)
              clear HO_10
              clear BK193
              clear BK194
              clear BK195
              clear HL199_1
              clear BK200
              clear HB
              clear HO_196001
              clear HO204
              have HO_10 := n0_
              have BK193 := n1_
              have BK194 := n2_
              have BK195 := n3_
              have HL199_1 := n4_
              have BK200 := n5_
              have HB := n6_
              have HO207 := n7_
              clear n0_ n1_ n2_ n3_ n4_ n5_ n6_ n7_
              clear ho hb hg hat
              obtain ⟨Ao30, co30, eo30⟩ := Kd.R_slice HO207.out
              (first | subst eo30 | (injection eo30 with f1_ f2_ f3_; have f4_ := f1_.symm; have f5_ := f3_.symm; clear f1_ f2_ f3_; subst f4_; subst f5_))
              refine hK.out _ _ ⟨(blk_cell BK195.out 0).trans rfl, (blk_cell BK195.out 1).trans rfl, (blk_cell BK200.out 0).trans rfl, (blk_cell BK200.out 1).trans rfl⟩ (fun hHeld => ?_)
              clear hK K
              refine norm_ (a' := ?_) ?_ ?_
              rotate_left
              · show Act.put _ (some 21) _ = _
                simp only [Act.put, List.setIfInBounds_toArray, List.set_cons_zero, List.set_cons_succ, i64_w, i32_w]
                rfl
              refine pure_ (i := 6) (N := some 22) (v := ?_) (a' := ?_) #[true, true, true, true, true, true, true, false] rfl rfl (any_of HT_.out (by kernel_rfl)) (fun _ _ _ h => h) (Or.inl ⟨by rfl, ?_⟩) ?_ ?_
              rotate_left
              · intro w'
                go_simp
                with_reducible rfl
              rotate_left
              · simp only [Act.put, List.setIfInBounds_toArray, List.set_cons_zero, List.set_cons_succ, i64_w, i32_w]
                rfl
              refine last_ (i := 7) (N := none) #[true, true, true, true, true, true, true, true] rfl rfl (one_of HT_.out (by kernel_rfl)) (by decide) (fun K hK => ?_)
              have hs31 : w28.cell? ⟨gb195, 1, none⟩ = some (u196001) := (blk_cell BK195.out 1).trans rfl
              have hfs31 := blk_frozen BK195.out 1
              have hns31_0 := NB193_195.out
              have hns31_1 := NB194_195.out
              have hns31_3 := NB200_195.out
              have hms31_0 := NB195_193.out
              have hms31_1 := NB195_194.out
              have hms31_3 := NB195_200.out
              refine skip_ (w1 := ?_) (by rfl) rfl ?_ ?_
              rotate_left
              · go_simp
                rfl
              refine hK.out _ _ ?_
              clear hK K
              refine done_ (done_of HT_.out (by kernel_rfl)) ?_
              try go_wp2
              go_roundg k1
              case measure => have := HK1.out; omega
              case rel => exact ⟨(wrap64 (x12_1 + 1)), (y205), (.slice Ao30 y205.length co30), (by first | rfl | (simp; done) | (simp [*]; done)), H', ⟨by have := HK1.out; omega⟩, ⟨by (with_reducible repeat (first | apply Kd.V_alloc | apply Kd.V_drewN | apply Kd.V_drew)); exact Kd.V_mono (Kd.V_far (p := ⟨gb195, 1, none⟩) (Kd.V_mono HO_10.out (fun k_ hk => (⟨hk, hk.1.2.2.2.1⟩ : _ ∧ k_ ≠ gb195))) (fun _ hk => hk.2) (.slice Ao30 y205.length co30)) (fun _ hk => ⟨hk.1.2, ⟨hk.1.1.2.1, ⟨hk.1.1.2.2.1, hk.1.1.2.2.2.1⟩⟩⟩)⟩, ⟨by (with_reducible repeat (first | apply Kd.R_alloc | apply Kd.R_drewN | apply Kd.R_drew)); exact Kd.R_mono (Kd.R_far (p := ⟨gb195, 1, none⟩) (Kd.R_mono HO207.out (fun k_ hk => (⟨hk, hk.2.2.1⟩ : _ ∧ k_ ≠ gb195))) (fun _ hk => hk.2) (.slice Ao30 y205.length co30)) (fun _ hk => ⟨hk.1.1, ⟨hk.1.2.1, hk.1.2.2.1⟩⟩)⟩, ⟨by (with_reducible repeat (first | refine blk_drewN ?_ _ | refine blk_drew ?_ | refine blk_alloc ?_ _)); refine blk_far ?_ NB193_195.out _; (with_reducible repeat (first | refine blk_drewN ?_ _ | refine blk_drew ?_ | refine blk_alloc ?_ _)); exact BK193.out⟩, ⟨by (with_reducible repeat (first | refine blk_drewN ?_ _ | refine blk_drew ?_ | refine blk_alloc ?_ _)); refine blk_far ?_ NB194_195.out _; (with_reducible repeat (first | refine blk_drewN ?_ _ | refine blk_drew ?_ | refine blk_alloc ?_ _)); exact BK194.out⟩, ⟨by (with_reducible repeat (first | refine blk_drewN ?_ _ | refine blk_drew ?_ | refine blk_alloc ?_ _)); refine blk_put (cs := #[.int .i64 a0_0, u196001]) ?_ 1 _ rfl; (with_reducible repeat (first | refine blk_drewN ?_ _ | refine blk_drew ?_ | refine blk_alloc ?_ _)); exact BK195.out⟩, ⟨by repeat (first | (with_reducible first | exact HB.out | apply below_alloc | apply pw_below_drewN | apply below_drew1 | refine below_set ?_ GE193.out | refine below_set ?_ GE194.out | refine below_set ?_ GE195.out | refine below_set ?_ GE200.out) | exact HB.out)⟩⟩
            · rw [if_neg c19] at H
              exact absurd H (by simp)
          · rw [if_neg c17] at H
            exact absurd H (by simp)
        · rw [if_neg c16] at H
          exact absurd H (by simp)
      · rw [if_neg c15] at H
        have c15b0 : decide (x12_1 < (t196.length : Int)) = false := decide_eq_false c15
        clear c15
        simp only [Option.some.injEq, Prod.mk.injEq] at H
        obtain ⟨rfl, rfl⟩ := H
        have hnb32 := NB195_193.out
        have hnc32 := NB193_195.out
        have hnb33 := NB195_194.out
        have hnc33 := NB194_195.out
        have hcz34_0 : wr.cell? ⟨gb195, 0, none⟩ = some (.int .i64 a0_0) := (blk_cell BK195.out 0).trans rfl
        have hcz34_1 : wr.cell? ⟨gb195, 1, none⟩ = some (u196001) := (blk_cell BK195.out 1).trans rfl
        have hfz34_0 := blk_frozen BK195.out 0
        have hfz34_1 := blk_frozen BK195.out 1
        have hnb35 := NB194_193.out
        have hnc35 := NB193_194.out
        have hcz36_0 : wr.cell? ⟨gb194, 0, none⟩ = some (.int .i64 0) := (blk_cell BK194.out 0).trans rfl
        have hcz36_1 : wr.cell? ⟨gb194, 1, none⟩ = some (.slice none 0 0) := (blk_cell BK194.out 1).trans rfl
        have hfz36_0 := blk_frozen BK194.out 0
        have hfz36_1 := blk_frozen BK194.out 1
        obtain ⟨Ao37, co37, eo37⟩ := Kd.R_slice HO_196001.out
        subst eo37
        go_wp2
        refine bodyPost_ret (results_cell_row rfl _ _ gb194 30 #[.int .i64 a0_0, .slice Ao37 x196001_1.length co37] (0, 0) _ rfl (by (with_reducible repeat (first | refine blk_drewN ?_ _ | refine blk_drew ?_ | refine blk_alloc ?_ _)); refine blk_put (cs := #[.int .i64 a0_0, .slice none 0 0]) ?_ 1 _ rfl; (with_reducible repeat (first | refine blk_drewN ?_ _ | refine blk_drew ?_ | refine blk_alloc ?_ _)); refine blk_put (cs := #[.int .i64 0, .slice none 0 0]) ?_ 0 _ rfl; (with_reducible repeat (first | refine blk_drewN ?_ _ | refine blk_drew ?_ | refine blk_alloc ?_ _)); exact BK194.out) Try.underlying30 rfl (by kernel_rfl)) rfl ?_
        exact ⟨_, by first | rfl | (simp [errW_none, errW_some] <;> rfl) | (simp [*, errW_none, errW_some] <;> rfl), by (with_reducible repeat (first | apply Kd.R_alloc | apply Kd.R_drewN | apply Kd.R_drew)); exact Kd.R_mono (Kd.R_far (p := ⟨gb194, 1, none⟩) (Kd.R_far (p := ⟨gb194, 0, none⟩) (Kd.R_mono HO_196001.out (fun k_ hk => (⟨hk, hk.2.1⟩ : _ ∧ k_ ≠ gb194))) (fun _ hk => hk.2) (.int .i64 a0_0)) (fun _ hk => hk.2) (.slice Ao37 x196001_1.length co37)) (fun _ hk => trivial), by repeat (first | (with_reducible first | exact HB.out | apply below_alloc | apply pw_below_drewN | apply below_drew1 | refine below_set ?_ GE193.out | refine below_set ?_ GE194.out | refine below_set ?_ GE195.out) | exact HB.out)⟩

end Go.Proofs.Ytpfddihcikiofaa.P
end

section
-- Laid by a program of this session (wip/tools) over the kit's printer: the functions' own text. Lean checks it.
namespace Go.Proofs.Ytpfddihcikiofaa.P
open Go.RowKit Go.Proofs.YtpfddihcikiofaaW.PrintWords Go.Proofs.YtpfddihcikiofaaW.PrintLast Go.Proofs.YtpfddihcikiofaaW.PrintMore
attribute [local go_sem] max2_int min2_int max_two min_two max_three min_three max_four min_four   -- for this text's walks alone
set_option linter.unusedVariables false
set_option linter.unusedSimpArgs false

/-! ### term_Same: function 37 -/
def term_Same.f (a0_0 : Int) (l0_1 : List (S30)) (a1_0 : Int) (l1_1 : List (S30)) : Option (Bool) := (term_Compare.f a0_0 l0_1 a1_0 l1_1).bind fun t263 => (some (t263 == 0))
set_option maxHeartbeats 8000000 in
set_option maxRecDepth 100000 in
theorem term_Same.calls (a0_0 : Int) (A0_1 : Option Addr) (c0_1 : Nat) (l0_1 : List (S30)) (a1_0 : Int) (A1_1 : Option Addr) (c1_1 : Nat) (l1_1 : List (S30)) (r : Bool) (w : World) (hr0_1 : Kd.C k30 w A0_1 l0_1.length l0_1) (hc0_1 : l0_1.length ≤ c0_1) (hr1_1 : Kd.C k30 w A1_1 l1_1.length l1_1) (hc1_1 : l1_1.length ≤ c1_1) (h : term_Same.f a0_0 l0_1 a1_0 l1_1 = some r) :
    Calls Try.prog 37 #[.agg #[.int .i64 a0_0, .slice A0_1 l0_1.length c0_1], .agg #[.int .i64 a1_0, .slice A1_1 l1_1.length c1_1]] w fun e w' => e = .returned (.bool r) ∧ Below w.heap.size w w' := by
  have hu30 := Try.underlying30
  have HR0_1 := Aside0.mk hr0_1
  have HC0_1 := Aside0.mk hc0_1
  clear hr0_1 hc0_1
  have HR1_1 := Aside0.mk hr1_1
  have HC1_1 := Aside0.mk hc1_1
  clear hr1_1 hc1_1
  have HB := Aside0.mk (Below.refl w.heap.size w)
  have H : ((term_Compare.f a0_0 l0_1 a1_0 l1_1).bind fun t263 => (some (t263 == 0))) = some r := h
  clear h
  replace H := Option.bind_eq_some_iff.mp H
  obtain ⟨t263, A30, H⟩ := H
  replace H : (some (t263 == 0)) = some r := H
  have A3 := Aside0.mk A30
  clear A30
  obtain rfl := Option.some.inj H
  go_enter Try.func37, Try.ntmps37
  go_wp2_with (first | ((with_reducible refine gate_dst (N := 2) rfl ?_); refine box_event ?hg (N := 2) ?hd (cs := #[.int .i64 a0_0, .slice A0_1 l0_1.length c0_1]) (t := 30) ?hr ?_; (case hd => rfl); (case hg => rfl); (case hr => first | (go_simp; done) | (go_simp; rfl)); intro gb261 hg w4 hbox hb; have n0_ := Aside0.mk (below_step (by repeat (first | (with_reducible first | exact HB.out | apply below_alloc | apply pw_below_drewN | apply below_drew1) | exact HB.out)) hb); have n1_ := Aside0.mk (hbox); have n2_ := Aside0.mk ((by rw [hg]; exact (below_size (by repeat (first | (with_reducible first | exact HB.out | apply below_alloc | apply pw_below_drewN | apply below_drew1) | exact HB.out))) : w.heap.size ≤ gb261)); have n3_ := Aside0.mk ((by rw [hg]; exact (below_size (by repeat (first | (with_reducible first | exact HB.out | apply below_alloc | apply pw_below_drewN | apply below_drew1) | exact HB.out))) : w.heap.size ≤ gb261)); clear HB; have HB := n0_; have BK261 := n1_; have GW261 := n2_; have GE261 := n3_; clear n0_ n1_ n2_ n3_; clear hb hbox hg) | ((with_reducible refine gate_dst (N := 3) rfl ?_); refine box_event ?hg (N := 3) ?hd (cs := #[.int .i64 a1_0, .slice A1_1 l1_1.length c1_1]) (t := 30) ?hr ?_; (case hd => rfl); (case hg => rfl); (case hr => first | (go_simp; done) | (go_simp; rfl)); intro gb262 hg w5 hbox hb; have n0_ := Aside0.mk (blk_below (g := gb261) (o := .cells #[.int .i64 a0_0, .slice A0_1 l0_1.length c0_1] 30 (0, 0)) (by (with_reducible repeat (first | refine blk_drewN ?_ _ | refine blk_drew ?_ | refine blk_alloc ?_ _)); exact BK261.out) hb); have n1_ := Aside0.mk (below_step (by repeat (first | (with_reducible first | exact HB.out | apply below_alloc | apply pw_below_drewN | apply below_drew1 | refine below_set ?_ GE261.out) | exact HB.out)) hb); have n2_ := Aside0.mk (hbox); have n3_ := Aside0.mk ((by rw [hg]; exact (below_size (by repeat (first | (with_reducible first | exact HB.out | apply below_alloc | apply pw_below_drewN | apply below_drew1 | refine below_set ?_ GE261.out) | exact HB.out))) : w.heap.size ≤ gb262)); have n4_ := Aside0.mk ((by rw [hg]; exact (below_size (by repeat (first | (with_reducible first | exact HB.out | apply below_alloc | apply pw_below_drewN | apply below_drew1 | refine below_set ?_ GE261.out) | exact HB.out))) : w.heap.size ≤ gb262)); have n5_ := Aside0.mk ((by rw [hg]; exact Nat.ne_of_lt (blk_lt (g := gb261) (o := .cells #[.int .i64 a0_0, .slice A0_1 l0_1.length c0_1] 30 (0, 0)) (by (with_reducible repeat (first | refine blk_drewN ?_ _ | refine blk_drew ?_ | refine blk_alloc ?_ _)); exact BK261.out)) : gb261 ≠ gb262)); have n6_ := Aside0.mk ((by rw [hg]; exact Nat.ne_of_gt (blk_lt (g := gb261) (o := .cells #[.int .i64 a0_0, .slice A0_1 l0_1.length c0_1] 30 (0, 0)) (by (with_reducible repeat (first | refine blk_drewN ?_ _ | refine blk_drew ?_ | refine blk_alloc ?_ _)); exact BK261.out)) : gb262 ≠ gb261)); clear BK261; clear HB; have BK261 := n0_; have HB := n1_; have BK262 := n2_; have GW262 := n3_; have GE262 := n4_; have NB261_262 := n5_; have NB262_261 := n6_; clear n0_ n1_ n2_ n3_ n4_ n5_ n6_; clear hb hbox hg; have hnb6 := NB261_262.out; have hnc6 := NB262_261.out; have hcz7_0 : w5.cell? ⟨gb261, 0, none⟩ = some (.int .i64 a0_0) := (blk_cell BK261.out 0).trans rfl; have hcz7_1 : w5.cell? ⟨gb261, 1, none⟩ = some (.slice A0_1 l0_1.length c0_1) := (blk_cell BK261.out 1).trans rfl; have hfz7_0 := blk_frozen BK261.out 0; have hfz7_1 := blk_frozen BK261.out 1; have hcz8_0 : w5.cell? ⟨gb262, 0, none⟩ = some (.int .i64 a1_0) := (blk_cell BK262.out 0).trans rfl; have hcz8_1 : w5.cell? ⟨gb262, 1, none⟩ = some (.slice A1_1 l1_1.length c1_1) := (blk_cell BK262.out 1).trans rfl; have hfz8_0 := blk_frozen BK262.out 0; have hfz8_1 := blk_frozen BK262.out 1) | ((with_reducible refine gate_callee (f := 36) rfl ?_); refine goesL_ (some 7) rfl rfl Try.func36 (by kernel_rfl) rfl #[.agg #[.int .i64 a0_0, .slice A0_1 l0_1.length c0_1], .agg #[.int .i64 a1_0, .slice A1_1 l1_1.length c1_1]] rfl (by (try simp only [List.map_toArray, List.map_cons, List.map_nil]); first | done | rfl | (simp only [List.length_drop, List.length_take]; rfl)) ?_; (with_reducible refine (term_Compare.calls a0_0 _ _ l0_1 a1_0 _ _ l1_1 t263 _ ?side1 ?side2 ?side3 ?side4 A3.out).mono ?_); (case side1 => repeat (first | exact (Kd.C_below HR0_1.out HB.out) | (with_reducible refine Kd.C_alloc ?_ _) | (with_reducible refine Kd.C_drewN ?_ _) | (with_reducible refine Kd.C_drew ?_))); (case side2 => exact HC0_1.out); (case side3 => repeat (first | exact (Kd.C_below HR1_1.out HB.out) | (with_reducible refine Kd.C_alloc ?_ _) | (with_reducible refine Kd.C_drewN ?_ _) | (with_reducible refine Kd.C_drew ?_))); (case side4 => exact HC1_1.out); rintro e w9 ⟨rfl, hb⟩; refine ⟨_, rfl, ?_⟩; have n0_ := Aside0.mk (blk_below (g := gb261) (o := .cells #[.int .i64 a0_0, .slice A0_1 l0_1.length c0_1] 30 (0, 0)) (by (with_reducible repeat (first | refine blk_drewN ?_ _ | refine blk_drew ?_ | refine blk_alloc ?_ _)); exact BK261.out) hb); have n1_ := Aside0.mk (blk_below (g := gb262) (o := .cells #[.int .i64 a1_0, .slice A1_1 l1_1.length c1_1] 30 (0, 0)) (by (with_reducible repeat (first | refine blk_drewN ?_ _ | refine blk_drew ?_ | refine blk_alloc ?_ _)); exact BK262.out) hb); have n2_ := Aside0.mk (below_step (by repeat (first | (with_reducible first | exact HB.out | apply below_alloc | apply pw_below_drewN | apply below_drew1 | refine below_set ?_ GE261.out | refine below_set ?_ GE262.out) | exact HB.out)) hb); clear BK261; clear BK262; clear HB; have BK261 := n0_; have BK262 := n1_; have HB := n2_; clear n0_ n1_ n2_; (try clear hb); (try clear hb2); (try clear hk); (try clear hi)))
  go_ret
  exact ⟨by first | rfl | (simp [errW_none, errW_some] <;> rfl) | (simp [*, errW_none, errW_some] <;> rfl), by repeat (first | (with_reducible first | exact HB.out | apply below_alloc | apply pw_below_drewN | apply below_drew1 | refine below_set ?_ GE261.out | refine below_set ?_ GE262.out) | exact HB.out)⟩

end Go.Proofs.Ytpfddihcikiofaa.P
end

section
/- Plain law: term.Compare's order is one. -/
namespace Go.Proofs.Ytpfddihcikiofaa.P
open Go.RowKit Go.Proofs.YtpfddihcikiofaaW.PrintWords Go.Proofs.YtpfddihcikiofaaW.PrintLast Go.Proofs.YtpfddihcikiofaaW.PrintMore
set_option linter.unusedVariables false
set_option linter.unusedSimpArgs false

theorem cmpI_neg (a b : Int) : cmpI b a = - cmpI a b := by unfold cmpI; (repeat' split) <;> omega
theorem cmpI_self (a : Int) : cmpI a a = 0 := by unfold cmpI; (repeat' split) <;> omega
theorem cmpI_range (a b : Int) : cmpI a b = -1 ∨ cmpI a b = 0 ∨ cmpI a b = 1 := by unfold cmpI; (repeat' split) <;> omega
theorem orI_neg (a b c : Int) : orI (-a) (-b) (-c) = - orI a b c := by unfold orI; (repeat' split) <;> omega
theorem orI_range {a b c : Int} (ha : a = -1 ∨ a = 0 ∨ a = 1) (hb : b = -1 ∨ b = 0 ∨ b = 1) (hc : c = -1 ∨ c = 0 ∨ c = 1) : orI a b c = -1 ∨ orI a b c = 0 ∨ orI a b c = 1 := by unfold orI; (repeat' split) <;> omega
theorem cmp_anti : ∀ x y : S30, cmpT y x = - cmpT x y := by
  refine S30.ind ?_
  intro f l ih y
  obtain ⟨g, m⟩ := y
  have hl : ∀ (l : List S30), (∀ x ∈ l, ∀ y, cmpT y x = - cmpT x y) → ∀ m, cmpTs m l = - cmpTs l m := by
    intro l
    induction l with
    | nil => intro _ m; cases m <;> simp [cmpTs]
    | cons x l ihl =>
      intro h m
      cases m with
      | nil => simp [cmpTs]
      | cons y m =>
        have h1 := h x (by simp) y
        have h2 := ihl (fun x hx => h x (by simp [hx])) m
        simp only [cmpTs, h1, h2]
        by_cases h0 : cmpT x y = 0
        · simp [h0]
        · rw [if_neg (by omega), if_neg h0]
  simp only [cmpT]
  by_cases h1 : f < 0 ∨ g < 0
  · rw [if_pos h1, if_pos h1.symm]
    by_cases h2 : f < 0 ∧ g < 0
    · rw [if_pos h2, if_pos h2.symm]; exact cmpI_neg g f
    · rw [if_neg h2, if_neg (fun h => h2 h.symm)]; exact cmpI_neg f g
  · rw [if_neg h1, if_neg (fun h => h1 h.symm), hl l ih m, cmpI_neg f g, cmpI_neg (l.length : Int) m.length, orI_neg]
theorem cmp_self : ∀ x : S30, cmpT x x = 0 := by
  intro x
  have := cmp_anti x x
  omega
theorem cmp_range : ∀ x y : S30, cmpT x y = -1 ∨ cmpT x y = 0 ∨ cmpT x y = 1 := by
  refine S30.ind ?_
  intro f l ih y
  obtain ⟨g, m⟩ := y
  have hl : ∀ (l : List S30), (∀ x ∈ l, ∀ y, cmpT x y = -1 ∨ cmpT x y = 0 ∨ cmpT x y = 1) → ∀ m, cmpTs l m = -1 ∨ cmpTs l m = 0 ∨ cmpTs l m = 1 := by
    intro l
    induction l with
    | nil => intro _ m; cases m <;> simp [cmpTs]
    | cons x l ihl =>
      intro h m
      cases m with
      | nil => simp [cmpTs]
      | cons y m =>
        have h1 := h x (by simp) y
        have h2 := ihl (fun x hx => h x (by simp [hx])) m
        simp only [cmpTs]
        split
        · exact h2
        · exact h1
  simp only [cmpT]
  split
  · split
    · exact cmpI_range _ _
    · exact cmpI_range _ _
  · exact orI_range (cmpI_range _ _) (cmpI_range _ _) (hl l ih m)
def T3 (p q r : Int) : Prop := p ≤ 0 → q ≤ 0 → r ≤ 0 ∧ (r = 0 ↔ p = 0 ∧ q = 0)
theorem T3.cmpI (a b c : Int) : T3 (cmpI a b) (cmpI b c) (cmpI a c) := by unfold T3 P.cmpI; (repeat' split) <;> omega
theorem orI_spec (a b c : Int) : (a ≠ 0 ∧ orI a b c = a) ∨ (a = 0 ∧ b ≠ 0 ∧ orI a b c = b) ∨ (a = 0 ∧ b = 0 ∧ orI a b c = c) := by unfold orI; (repeat' split) <;> omega
theorem T3.or {p q r p' q' r' p2 q2 r2 : Int} (h : T3 p q r) (h' : T3 p' q' r') (h2 : T3 p2 q2 r2) : T3 (orI p p' p2) (orI q q' q2) (orI r r' r2) := by
  have e1 := orI_spec p p' p2
  have e2 := orI_spec q q' q2
  have e3 := orI_spec r r' r2
  generalize orI p p' p2 = P at e1 ⊢
  generalize orI q q' q2 = Q at e2 ⊢
  generalize orI r r' r2 = R at e3 ⊢
  unfold T3 at *
  rcases e1 with e1 | e1 | e1 <;> rcases e2 with e2 | e2 | e2 <;> rcases e3 with e3 | e3 | e3 <;> intro h3 h4 <;> omega
theorem pick_spec (a b : Int) : (a = 0 ∧ (if a = 0 then b else a) = b) ∨ (a ≠ 0 ∧ (if a = 0 then b else a) = a) := by split <;> omega
theorem T3.pick {p q r p' q' r' : Int} (h : T3 p q r) (h' : T3 p' q' r') : T3 (if p = 0 then p' else p) (if q = 0 then q' else q) (if r = 0 then r' else r) := by
  have e1 := pick_spec p p'
  have e2 := pick_spec q q'
  have e3 := pick_spec r r'
  generalize (if p = 0 then p' else p) = P at e1 ⊢
  generalize (if q = 0 then q' else q) = Q at e2 ⊢
  generalize (if r = 0 then r' else r) = R at e3 ⊢
  unfold T3 at *
  rcases e1 with e1 | e1 <;> rcases e2 with e2 | e2 <;> rcases e3 with e3 | e3 <;> intro h3 h4 <;> omega
theorem cmp_trans : ∀ x y z : S30, T3 (cmpT x y) (cmpT y z) (cmpT x z) := by
  refine S30.ind ?_
  intro f l ih y z
  obtain ⟨g, m⟩ := y
  obtain ⟨h, n⟩ := z
  have hl : ∀ (l : List S30), (∀ x ∈ l, ∀ y z, T3 (cmpT x y) (cmpT y z) (cmpT x z)) → ∀ m n, T3 (cmpTs l m) (cmpTs m n) (cmpTs l n) := by
    intro l
    induction l with
    | nil =>
      intro _ m n
      cases m <;> cases n <;> simp [cmpTs, T3]
    | cons x l ihl =>
      intro h m n
      cases m with
      | nil => cases n <;> simp [cmpTs, T3]
      | cons y m =>
        cases n with
        | nil => simp [cmpTs, T3]
        | cons z n =>
          have h1 := h x (by simp) y z
          have h2 := ihl (fun x hx => h x (by simp [hx])) m n
          simp only [cmpTs]
          exact T3.pick h1 h2
  simp only [cmpT]
  by_cases hf : f < 0 <;> by_cases hg : g < 0 <;> by_cases hh : h < 0 <;> simp only [hf, hg, hh, true_or, or_true, true_and, and_true, false_or, or_false, and_false, false_and, and_self, or_self, if_true, if_false]
  · unfold T3 cmpI; (repeat' split) <;> omega
  · unfold T3 cmpI; (repeat' split) <;> omega
  · unfold T3 cmpI; (repeat' split) <;> omega
  · have e1 := orI_spec (cmpI g h) (cmpI m.length n.length) (cmpTs m n); generalize orI (cmpI g h) (cmpI m.length n.length) (cmpTs m n) = X at e1 ⊢; unfold T3 cmpI at *; (repeat' split) <;> omega
  · unfold T3 cmpI; (repeat' split) <;> omega
  · unfold T3 cmpI; (repeat' split) <;> omega
  · have e1 := orI_spec (cmpI f g) (cmpI l.length m.length) (cmpTs l m); generalize orI (cmpI f g) (cmpI l.length m.length) (cmpTs l m) = X at e1 ⊢; unfold T3 cmpI at *; (repeat' split) <;> omega
  · exact T3.or (T3.cmpI f g h) (T3.cmpI _ _ _) (hl l ih m n)
mutual
/-- A clone: variables have no parts. -/
def cloneT : S30 → S30
  | ⟨f, l⟩ => ⟨f, if f < 0 then [] else cloneTs l⟩
def cloneTs : List S30 → List S30
  | [] => []
  | x :: r => cloneT x :: cloneTs r
end
theorem cloneTs_eq (l : List S30) : cloneTs l = l.map cloneT := by
  induction l with
  | nil => rfl
  | cons x l ih => simp [cloneTs, ih]
theorem cmp_clone : ∀ x : S30, cmpT (cloneT x) x = 0 := by
  refine S30.ind ?_
  intro f l ih
  have hl : ∀ (l : List S30), (∀ x ∈ l, cmpT (cloneT x) x = 0) → cmpTs (cloneTs l) l = 0 := by
    intro l
    induction l with
    | nil => intro _; simp [cloneTs, cmpTs]
    | cons x l ihl =>
      intro h
      simp only [cloneTs, cmpTs, h x (by simp), if_true]
      exact ihl (fun x hx => h x (by simp [hx]))
  simp only [cloneT, cmpT]
  by_cases hf : f < 0
  · simp [hf, cmpI_self]
  · simp only [hf, or_self, and_self, if_false]
    rw [hl l ih, cmpI_self, cloneTs_eq, List.length_map, cmpI_self]
    rfl
theorem Clone_spec : ∀ t : S30, ok t → Ev (fun k => term_Clone.f k t.f0 t.f1) ((cloneT t).f0, (cloneT t).f1) := by
  refine S30.ind ?_
  intro f l ih hok
  obtain ⟨_, _, hl, hks⟩ := hok
  have hloop : ∀ (q : List S30), q.length ≤ 20 → (∀ x ∈ q, x ∈ l) → ∀ (m i : Nat), q.length - i = m → i ≤ q.length → Ev (fun k => term_Clone.l0 k q (q.length : Int) (i : Int) f ((q.take i).map cloneT)) (f, q.map cloneT) := by
    intro q hq20 hql m
    induction m with
    | zero =>
      intro i hi hle
      refine Ev.step (f := fun _ => some (f, q.map cloneT)) (fun k => ?_) (Ev.now _)
      rw [term_Clone.l0, if_neg (by omega), List.take_of_length_le (by omega)]
    | succ m ihm =>
      intro i hi hle
      have hlt : i < q.length := by omega
      have hm := hql _ (List.getElem_mem hlt)
      have he := ih q[i] hm (oks_mem hks _ hm)
      refine Ev.step (f := fun k => (term_Clone.f k q[i].f0 q[i].f1).bind fun t => if ((q.take i).map cloneT).length < 4398046511104 then term_Clone.l0 k q (q.length : Int) ((i + 1 : Nat) : Int) f ((q.take i).map cloneT ++ [(⟨t.1, t.2⟩ : S30)]) else none) (fun k => ?_) (Ev.bind he ?_)
      · rw [term_Clone.l0, if_pos (by omega), if_pos (by omega), if_pos (by omega), rd30_at q i hlt, show wrap64 ((i : Int) + 1) = ((i + 1 : Nat) : Int) from by rw [w64 _ (by omega)]; omega]
      · simp only [List.length_map, List.length_take]
        simp only [if_pos (show min i q.length < 4398046511104 by omega)]
        have := ihm (i + 1) (by omega) (by omega)
        rw [List.take_succ_eq_append_getElem hlt, List.map_append] at this
        simp only [S30.eta]
        exact this
  by_cases hf : f < 0
  · refine Ev.step (f := fun k => term_Clone.l0 k [] (([] : List S30).length : Int) 0 f []) (fun k => ?_) ?_
    · rw [term_Clone.f]; simp [term_parts.f, hf]
    · have := hloop [] (by simp) (by simp) 0 0 rfl (by simp)
      simpa [cloneT, hf] using this
  · refine Ev.step (f := fun k => term_Clone.l0 k l (l.length : Int) 0 f []) (fun k => ?_) ?_
    · rw [term_Clone.f]; simp [term_parts.f, hf]
    · have := hloop l hl (fun x hx => hx) l.length 0 rfl (by omega)
      simpa [cloneT, hf, cloneTs_eq] using this
theorem Same_of (x y : S30) : term_Same.f x.f0 x.f1 y.f0 y.f1 = some (cmpT x y == 0) := by
  simp only [term_Same.f, term_Compare.f, S30.eta, Option.bind_some]
theorem Cmp_of (x y : S30) : term_Compare.f x.f0 x.f1 y.f0 y.f1 = some (cmpT x y) := by
  simp only [term_Compare.f, S30.eta]
end Go.Proofs.Ytpfddihcikiofaa.P
end

section
/- TermSame: its regions. PRINTED by gen/gtermsame.py. -/
namespace Go.Proofs.Ytpfddihcikiofaa.P
open Go.RowKit Go.Proofs.YtpfddihcikiofaaW.PrintWords Go.Proofs.YtpfddihcikiofaaW.PrintLast Go.Proofs.YtpfddihcikiofaaW.PrintMore
set_option linter.unusedVariables false
set_option linter.unusedSimpArgs false

set_option maxHeartbeats 4000000 in
set_option maxRecDepth 100000 in
theorem TermSame_r7 {id : Nat} {a : Act} {w : World} {Q : Exit → Act → World → Prop} {f : Int} {ga gb : Nat} {xf xl yf yl : Value}
    (hr : regionOk #[{ dst := some 28, op := Op.move (Operand.tmp 2), type := 5, pos := "law.go:227", after := #[], guard := none }, { dst := some 29, op := Op.convert 5 3 (Operand.tmp 28), type := 3, pos := "law.go:227", after := #[{ on := 0, ground := Ground.data }], guard := none }, { dst := some 30, op := Op.load 30 (Operand.tmp 7), type := 30, pos := "law.go:227", after := #[], guard := none }, { dst := some 31, op := Op.load 30 (Operand.tmp 8), type := 30, pos := "law.go:227", after := #[], guard := none }, { dst := some 32, op := Op.buildSlice 28 2 #[(0, Operand.tmp 30), (1, Operand.tmp 31)], type := 28, pos := "law.go:227", after := #[{ on := 2, ground := Ground.data }, { on := 3, ground := Ground.data }], guard := none }, { dst := some 33, op := Op.build 30 #[(0, Operand.tmp 29), (1, Operand.tmp 32)], type := 30, pos := "law.go:227", after := #[{ on := 1, ground := Ground.data }, { on := 4, ground := Ground.data }], guard := none }, { dst := some 34, op := Op.move (Operand.tmp 2), type := 5, pos := "law.go:227", after := #[{ on := 14, ground := Ground.gcOnly Departure.lateStores }], guard := none }, { dst := some 35, op := Op.convert 5 3 (Operand.tmp 34), type := 3, pos := "law.go:227", after := #[{ on := 6, ground := Ground.data }, { on := 14, ground := Ground.gcOnly Departure.lateStores }], guard := none }, { dst := some 36, op := Op.load 30 (Operand.tmp 8), type := 30, pos := "law.go:227", after := #[{ on := 14, ground := Ground.gcOnly Departure.lateStores }], guard := none }, { dst := some 37, op := Op.load 30 (Operand.tmp 7), type := 30, pos := "law.go:227", after := #[{ on := 14, ground := Ground.gcOnly Departure.lateStores }], guard := none }, { dst := some 38, op := Op.buildSlice 28 2 #[(0, Operand.tmp 36), (1, Operand.tmp 37)], type := 28, pos := "law.go:227", after := #[{ on := 8, ground := Ground.data }, { on := 9, ground := Ground.data }, { on := 14, ground := Ground.gcOnly Departure.lateStores }], guard := none }, { dst := some 39, op := Op.build 30 #[(0, Operand.tmp 35), (1, Operand.tmp 38)], type := 30, pos := "law.go:227", after := #[{ on := 7, ground := Ground.data }, { on := 10, ground := Ground.data }, { on := 14, ground := Ground.gcOnly Departure.lateStores }], guard := none }, { dst := some 10, op := Op.alloc 30, type := 0, pos := "law.go:227", after := #[], guard := none }, { dst := some 11, op := Op.alloc 30, type := 0, pos := "law.go:227", after := #[], guard := none }, { dst := none, op := Op.store 30 (Operand.tmp 10) (Operand.tmp 33), type := 0, pos := "law.go:227", after := #[{ on := 12, ground := Ground.data }, { on := 5, ground := Ground.data }, { on := 0, ground := Ground.phase }, { on := 1, ground := Ground.phase }, { on := 2, ground := Ground.phase }, { on := 3, ground := Ground.phase }, { on := 4, ground := Ground.phase }, { on := 5, ground := Ground.phase }, { on := 6, ground := Ground.textOnly Departure.lateStores }, { on := 7, ground := Ground.textOnly Departure.lateStores }, { on := 8, ground := Ground.textOnly Departure.lateStores }, { on := 9, ground := Ground.textOnly Departure.lateStores }, { on := 10, ground := Ground.textOnly Departure.lateStores }, { on := 11, ground := Ground.textOnly Departure.lateStores }, { on := 12, ground := Ground.phase }, { on := 13, ground := Ground.phase }], guard := none }, { dst := none, op := Op.store 30 (Operand.tmp 11) (Operand.tmp 39), type := 0, pos := "law.go:227", after := #[{ on := 13, ground := Ground.data }, { on := 11, ground := Ground.data }, { on := 14, ground := Ground.chain }, { on := 0, ground := Ground.phase }, { on := 1, ground := Ground.phase }, { on := 2, ground := Ground.phase }, { on := 3, ground := Ground.phase }, { on := 4, ground := Ground.phase }, { on := 5, ground := Ground.phase }, { on := 6, ground := Ground.phase }, { on := 7, ground := Ground.phase }, { on := 8, ground := Ground.phase }, { on := 9, ground := Ground.phase }, { on := 10, ground := Ground.phase }, { on := 11, ground := Ground.phase }, { on := 12, ground := Ground.phase }, { on := 13, ground := Ground.phase }, { on := 14, ground := Ground.phase }], guard := none }] a.tmps.size = true)
    (hT2 : a.tmps.getD 2 undef = .int .u8 f)
    (hT7 : a.tmps.getD 7 undef = .pointer (some ⟨ga, 0, none⟩)) (hX7 : w.heap[ga]? = some (.cells #[xf, xl] 30 (0, 0)))
    (hT8 : a.tmps.getD 8 undef = .pointer (some ⟨gb, 0, none⟩)) (hX8 : w.heap[gb]? = some (.cells #[yf, yl] 30 (0, 0)))
    (hf : 0 ≤ f ∧ f ≤ 255)
    (hQ : ∀ v w' gs1 gs2 gp gq, v 12 = .pointer (some ⟨gp, 0, none⟩) → v 13 = .pointer (some ⟨gq, 0, none⟩) → w.heap.size ≤ gp → w.heap.size ≤ gq → gp ≠ gq → w'.heap[gp]? = some (.cells #[.int .i64 f, .slice (some ⟨gs1, 0, none⟩) 2 2] 30 (0, 0)) → w'.heap[gq]? = some (.cells #[.int .i64 f, .slice (some ⟨gs2, 0, none⟩) 2 2] 30 (0, 0)) → w'.heap[gs1]? = some (.cells #[xf, xl, yf, yl] 30 (0, 0)) → w'.heap[gs2]? = some (.cells #[yf, yl, xf, xl] 30 (0, 0)) → Below w.heap.size w w' → Q .normal { tmps := layL [some 28, some 29, some 30, some 31, some 32, some 33, some 34, some 35, some 36, some 37, some 38, some 39, some 10, some 11, none, none] 0 v a.tmps, defers := a.defers } w') :
    (Code.region id #[{ dst := some 28, op := Op.move (Operand.tmp 2), type := 5, pos := "law.go:227", after := #[], guard := none }, { dst := some 29, op := Op.convert 5 3 (Operand.tmp 28), type := 3, pos := "law.go:227", after := #[{ on := 0, ground := Ground.data }], guard := none }, { dst := some 30, op := Op.load 30 (Operand.tmp 7), type := 30, pos := "law.go:227", after := #[], guard := none }, { dst := some 31, op := Op.load 30 (Operand.tmp 8), type := 30, pos := "law.go:227", after := #[], guard := none }, { dst := some 32, op := Op.buildSlice 28 2 #[(0, Operand.tmp 30), (1, Operand.tmp 31)], type := 28, pos := "law.go:227", after := #[{ on := 2, ground := Ground.data }, { on := 3, ground := Ground.data }], guard := none }, { dst := some 33, op := Op.build 30 #[(0, Operand.tmp 29), (1, Operand.tmp 32)], type := 30, pos := "law.go:227", after := #[{ on := 1, ground := Ground.data }, { on := 4, ground := Ground.data }], guard := none }, { dst := some 34, op := Op.move (Operand.tmp 2), type := 5, pos := "law.go:227", after := #[{ on := 14, ground := Ground.gcOnly Departure.lateStores }], guard := none }, { dst := some 35, op := Op.convert 5 3 (Operand.tmp 34), type := 3, pos := "law.go:227", after := #[{ on := 6, ground := Ground.data }, { on := 14, ground := Ground.gcOnly Departure.lateStores }], guard := none }, { dst := some 36, op := Op.load 30 (Operand.tmp 8), type := 30, pos := "law.go:227", after := #[{ on := 14, ground := Ground.gcOnly Departure.lateStores }], guard := none }, { dst := some 37, op := Op.load 30 (Operand.tmp 7), type := 30, pos := "law.go:227", after := #[{ on := 14, ground := Ground.gcOnly Departure.lateStores }], guard := none }, { dst := some 38, op := Op.buildSlice 28 2 #[(0, Operand.tmp 36), (1, Operand.tmp 37)], type := 28, pos := "law.go:227", after := #[{ on := 8, ground := Ground.data }, { on := 9, ground := Ground.data }, { on := 14, ground := Ground.gcOnly Departure.lateStores }], guard := none }, { dst := some 39, op := Op.build 30 #[(0, Operand.tmp 35), (1, Operand.tmp 38)], type := 30, pos := "law.go:227", after := #[{ on := 7, ground := Ground.data }, { on := 10, ground := Ground.data }, { on := 14, ground := Ground.gcOnly Departure.lateStores }], guard := none }, { dst := some 10, op := Op.alloc 30, type := 0, pos := "law.go:227", after := #[], guard := none }, { dst := some 11, op := Op.alloc 30, type := 0, pos := "law.go:227", after := #[], guard := none }, { dst := none, op := Op.store 30 (Operand.tmp 10) (Operand.tmp 33), type := 0, pos := "law.go:227", after := #[{ on := 12, ground := Ground.data }, { on := 5, ground := Ground.data }, { on := 0, ground := Ground.phase }, { on := 1, ground := Ground.phase }, { on := 2, ground := Ground.phase }, { on := 3, ground := Ground.phase }, { on := 4, ground := Ground.phase }, { on := 5, ground := Ground.phase }, { on := 6, ground := Ground.textOnly Departure.lateStores }, { on := 7, ground := Ground.textOnly Departure.lateStores }, { on := 8, ground := Ground.textOnly Departure.lateStores }, { on := 9, ground := Ground.textOnly Departure.lateStores }, { on := 10, ground := Ground.textOnly Departure.lateStores }, { on := 11, ground := Ground.textOnly Departure.lateStores }, { on := 12, ground := Ground.phase }, { on := 13, ground := Ground.phase }], guard := none }, { dst := none, op := Op.store 30 (Operand.tmp 11) (Operand.tmp 39), type := 0, pos := "law.go:227", after := #[{ on := 13, ground := Ground.data }, { on := 11, ground := Ground.data }, { on := 14, ground := Ground.chain }, { on := 0, ground := Ground.phase }, { on := 1, ground := Ground.phase }, { on := 2, ground := Ground.phase }, { on := 3, ground := Ground.phase }, { on := 4, ground := Ground.phase }, { on := 5, ground := Ground.phase }, { on := 6, ground := Ground.phase }, { on := 7, ground := Ground.phase }, { on := 8, ground := Ground.phase }, { on := 9, ground := Ground.phase }, { on := 10, ground := Ground.phase }, { on := 11, ground := Ground.phase }, { on := 12, ground := Ground.phase }, { on := 13, ground := Ground.phase }, { on := 14, ground := Ground.phase }], guard := none }] true).wp Try.prog Q a w := by
  have hmx : Try.prog.follows .mixedOrders = true := by kernel_rfl
  have hJo : ∀ i, i ∉ [12, 14, 13, 15] → ∀ v d (w1 w2 : World) u, (Boxes w.heap.size #[.int .i64 0, .slice none 0 0] 30 [⟨12, 14, 5⟩, ⟨13, 15, 11⟩]) v d w1 → d i = false → Below w1.heap.size w1 w2 → (Boxes w.heap.size #[.int .i64 0, .slice none 0 0] 30 [⟨12, 14, 5⟩, ⟨13, 15, 11⟩]) (upd v i u) (upd d i true) w2 := fun i hi v d w1 w2 u h hd hb => Boxes.other i (show i ∉ Boxes.ids [⟨12, 14, 5⟩, ⟨13, 15, 11⟩] from hi) v d w1 w2 u h hd hb
  refine region_detJ (KeepBlk 2) (Boxes w.heap.size #[.int .i64 0, .slice none 0 0] 30 [⟨12, 14, 5⟩, ⟨13, 15, 11⟩]) 16 (KeepBlk.of_below 2 _ _ (pw_below_drewN (Below.refl _ _) 1)) (fun v => Boxes.start _ _ _ _ v _) hmx hr rfl ?_
  refine DetJ.is (o := { dst := some 28, op := Op.move (Operand.tmp 2), type := 5, pos := "law.go:227", after := #[], guard := none }) (u := ?ux1) (KeepBlk.of_below 2) [12, 14, 13, 15] hJo rfl (by decide) (by decide) (fun T w' hb hd hB K hK => ?sx1) ?rx1
  case sx1 =>
    have e2 := (hB 2 (by kernel_rfl)).trans hT2
    rw [if_pos (wanted_none _ rfl)]
    clear hd hB
    go_simp
    exact hK _ (Below.refl _ _)
  refine DetJ.is (o := { dst := some 29, op := Op.convert 5 3 (Operand.tmp 28), type := 3, pos := "law.go:227", after := #[{ on := 0, ground := Ground.data }], guard := none }) (u := .int .i64 f) (KeepBlk.of_below 2) [12, 14, 13, 15] hJo rfl (by decide) (by decide) (fun T w' hb hd hB K hK => ?sx2) ?rx2
  case sx2 =>
    have e28 := hd 0 28 _ (by decide) (by kernel_rfl) rfl rfl
    replace e28 : T.getD 28 undef = _ := e28
    rw [if_pos (wanted_none _ rfl)]
    clear hd hB
    go_simp
    rw [show IntKind.i64.wrap f = f from by rw [i64_w]; unfold wrap64; omega]
    exact hK _ (Below.refl _ _)
  refine DetJ.is (o := { dst := some 30, op := Op.load 30 (Operand.tmp 7), type := 30, pos := "law.go:227", after := #[], guard := none }) (u := ?ux3) (KeepBlk.of_below 2) [12, 14, 13, 15] hJo rfl (by decide) (by decide) (fun T w' hb hd hB K hK => ?sx3) ?rx3
  case sx3 =>
    have e7 := (hB 7 (by kernel_rfl)).trans hT7
    have q7_0 : w'.cell? ⟨ga, 0, none⟩ = some (xf) := (blk_cell (blk_below hX7 hb) 0).trans rfl
    have q7_1 : w'.cell? ⟨ga, 1, none⟩ = some (xl) := (blk_cell (blk_below hX7 hb) 1).trans rfl
    rw [if_pos (wanted_none _ rfl)]
    clear hd hB
    go_simp
    exact hK _ (Below.refl _ _)
  refine DetJ.is (o := { dst := some 31, op := Op.load 30 (Operand.tmp 8), type := 30, pos := "law.go:227", after := #[], guard := none }) (u := ?ux4) (KeepBlk.of_below 2) [12, 14, 13, 15] hJo rfl (by decide) (by decide) (fun T w' hb hd hB K hK => ?sx4) ?rx4
  case sx4 =>
    have e8 := (hB 8 (by kernel_rfl)).trans hT8
    have q8_0 : w'.cell? ⟨gb, 0, none⟩ = some (yf) := (blk_cell (blk_below hX8 hb) 0).trans rfl
    have q8_1 : w'.cell? ⟨gb, 1, none⟩ = some (yl) := (blk_cell (blk_below hX8 hb) 1).trans rfl
    rw [if_pos (wanted_none _ rfl)]
    clear hd hB
    go_simp
    exact hK _ (Below.refl _ _)
  refine DetJ.told (KeepBlk.of_below 2) [12, 14, 13, 15] hJo (o := { dst := some 32, op := Op.buildSlice 28 2 #[(0, Operand.tmp 30), (1, Operand.tmp 31)], type := 28, pos := "law.go:227", after := #[{ on := 2, ground := Ground.data }, { on := 3, ground := Ground.data }], guard := none }) (BlockTold 0 (fun g => .slice (some ⟨g, 0, none⟩) 2 2) #[xf, xl, yf, yl] 30) rfl (by decide) (by decide) (BlockTold.keeps (show (4 : Nat) ≠ 2 by decide)) (fun T w' hb hd hB K hK => ?sx5) ?rx5
  case sx5 =>
    have e30 := hd 2 30 _ (by decide) (by kernel_rfl) rfl rfl
    replace e30 : T.getD 30 undef = _ := e30
    have z30 : T[30]?.getD undef = _ := Array.getD_eq_getD_getElem?.symm.trans e30
    have e31 := hd 3 31 _ (by decide) (by kernel_rfl) rfl rfl
    replace e31 : T.getD 31 undef = _ := e31
    have z31 : T[31]?.getD undef = _ := Array.getD_eq_getD_getElem?.symm.trans e31
    rw [if_pos (wanted_none _ rfl)]
    clear hd hB
    go_simp
    exact hK _ _ (below_alloc (Below.refl _ _) _) ⟨w'.heap.size, rfl, Nat.zero_le _, heap_alloc_new _ _⟩
  refine DetJ.told (KeepBlk.of_below 2) [12, 14, 13, 15] hJo (o := { dst := some 33, op := Op.build 30 #[(0, Operand.tmp 29), (1, Operand.tmp 32)], type := 30, pos := "law.go:227", after := #[{ on := 1, ground := Ground.data }, { on := 4, ground := Ground.data }], guard := none }) (BlockTold 0 (fun g => .agg #[.int .i64 f, .slice (some ⟨g, 0, none⟩) 2 2]) #[xf, xl, yf, yl] 30) rfl (by decide) (by decide) (BlockTold.keeps (show (4 : Nat) ≠ 2 by decide)) (fun T w' hb hd hB K hK => ?sx6) ?rx6
  case sx6 =>
    have e29 := hd 1 29 _ (by decide) (by kernel_rfl) rfl rfl
    replace e29 : T.getD 29 undef = _ := e29
    have z29 : T[29]?.getD undef = _ := Array.getD_eq_getD_getElem?.symm.trans e29
    obtain ⟨gs32, e32, hge32, hbs32⟩ := (hd 4 32 _ (by decide) (by kernel_rfl) rfl rfl)
    have z32 : T[32]?.getD undef = _ := Array.getD_eq_getD_getElem?.symm.trans e32
    rw [if_pos (wanted_none _ rfl)]
    clear hd hB
    go_simp
    exact hK _ _ (Below.refl _ _) ⟨_, rfl, by assumption, by assumption⟩
  refine DetJ.is (o := { dst := some 34, op := Op.move (Operand.tmp 2), type := 5, pos := "law.go:227", after := #[{ on := 14, ground := Ground.gcOnly Departure.lateStores }], guard := none }) (u := ?ux7) (KeepBlk.of_below 2) [12, 14, 13, 15] hJo rfl (by decide) (by decide) (fun T w' hb hd hB K hK => ?sx7) ?rx7
  case sx7 =>
    have e2 := (hB 2 (by kernel_rfl)).trans hT2
    rw [if_pos (wanted_none _ rfl)]
    clear hd hB
    go_simp
    exact hK _ (Below.refl _ _)
  refine DetJ.is (o := { dst := some 35, op := Op.convert 5 3 (Operand.tmp 34), type := 3, pos := "law.go:227", after := #[{ on := 6, ground := Ground.data }, { on := 14, ground := Ground.gcOnly Departure.lateStores }], guard := none }) (u := .int .i64 f) (KeepBlk.of_below 2) [12, 14, 13, 15] hJo rfl (by decide) (by decide) (fun T w' hb hd hB K hK => ?sx8) ?rx8
  case sx8 =>
    have e34 := hd 6 34 _ (by decide) (by kernel_rfl) rfl rfl
    replace e34 : T.getD 34 undef = _ := e34
    rw [if_pos (wanted_none _ rfl)]
    clear hd hB
    go_simp
    rw [show IntKind.i64.wrap f = f from by rw [i64_w]; unfold wrap64; omega]
    exact hK _ (Below.refl _ _)
  refine DetJ.is (o := { dst := some 36, op := Op.load 30 (Operand.tmp 8), type := 30, pos := "law.go:227", after := #[{ on := 14, ground := Ground.gcOnly Departure.lateStores }], guard := none }) (u := ?ux9) (KeepBlk.of_below 2) [12, 14, 13, 15] hJo rfl (by decide) (by decide) (fun T w' hb hd hB K hK => ?sx9) ?rx9
  case sx9 =>
    have e8 := (hB 8 (by kernel_rfl)).trans hT8
    have q8_0 : w'.cell? ⟨gb, 0, none⟩ = some (yf) := (blk_cell (blk_below hX8 hb) 0).trans rfl
    have q8_1 : w'.cell? ⟨gb, 1, none⟩ = some (yl) := (blk_cell (blk_below hX8 hb) 1).trans rfl
    rw [if_pos (wanted_none _ rfl)]
    clear hd hB
    go_simp
    exact hK _ (Below.refl _ _)
  refine DetJ.is (o := { dst := some 37, op := Op.load 30 (Operand.tmp 7), type := 30, pos := "law.go:227", after := #[{ on := 14, ground := Ground.gcOnly Departure.lateStores }], guard := none }) (u := ?ux10) (KeepBlk.of_below 2) [12, 14, 13, 15] hJo rfl (by decide) (by decide) (fun T w' hb hd hB K hK => ?sx10) ?rx10
  case sx10 =>
    have e7 := (hB 7 (by kernel_rfl)).trans hT7
    have q7_0 : w'.cell? ⟨ga, 0, none⟩ = some (xf) := (blk_cell (blk_below hX7 hb) 0).trans rfl
    have q7_1 : w'.cell? ⟨ga, 1, none⟩ = some (xl) := (blk_cell (blk_below hX7 hb) 1).trans rfl
    rw [if_pos (wanted_none _ rfl)]
    clear hd hB
    go_simp
    exact hK _ (Below.refl _ _)
  refine DetJ.told (KeepBlk.of_below 2) [12, 14, 13, 15] hJo (o := { dst := some 38, op := Op.buildSlice 28 2 #[(0, Operand.tmp 36), (1, Operand.tmp 37)], type := 28, pos := "law.go:227", after := #[{ on := 8, ground := Ground.data }, { on := 9, ground := Ground.data }, { on := 14, ground := Ground.gcOnly Departure.lateStores }], guard := none }) (BlockTold 0 (fun g => .slice (some ⟨g, 0, none⟩) 2 2) #[yf, yl, xf, xl] 30) rfl (by decide) (by decide) (BlockTold.keeps (show (4 : Nat) ≠ 2 by decide)) (fun T w' hb hd hB K hK => ?sx11) ?rx11
  case sx11 =>
    have e36 := hd 8 36 _ (by decide) (by kernel_rfl) rfl rfl
    replace e36 : T.getD 36 undef = _ := e36
    have z36 : T[36]?.getD undef = _ := Array.getD_eq_getD_getElem?.symm.trans e36
    have e37 := hd 9 37 _ (by decide) (by kernel_rfl) rfl rfl
    replace e37 : T.getD 37 undef = _ := e37
    have z37 : T[37]?.getD undef = _ := Array.getD_eq_getD_getElem?.symm.trans e37
    rw [if_pos (wanted_none _ rfl)]
    clear hd hB
    go_simp
    exact hK _ _ (below_alloc (Below.refl _ _) _) ⟨w'.heap.size, rfl, Nat.zero_le _, heap_alloc_new _ _⟩
  refine DetJ.told (KeepBlk.of_below 2) [12, 14, 13, 15] hJo (o := { dst := some 39, op := Op.build 30 #[(0, Operand.tmp 35), (1, Operand.tmp 38)], type := 30, pos := "law.go:227", after := #[{ on := 7, ground := Ground.data }, { on := 10, ground := Ground.data }, { on := 14, ground := Ground.gcOnly Departure.lateStores }], guard := none }) (BlockTold 0 (fun g => .agg #[.int .i64 f, .slice (some ⟨g, 0, none⟩) 2 2]) #[yf, yl, xf, xl] 30) rfl (by decide) (by decide) (BlockTold.keeps (show (4 : Nat) ≠ 2 by decide)) (fun T w' hb hd hB K hK => ?sx12) ?rx12
  case sx12 =>
    have e35 := hd 7 35 _ (by decide) (by kernel_rfl) rfl rfl
    replace e35 : T.getD 35 undef = _ := e35
    have z35 : T[35]?.getD undef = _ := Array.getD_eq_getD_getElem?.symm.trans e35
    obtain ⟨gs38, e38, hge38, hbs38⟩ := (hd 10 38 _ (by decide) (by kernel_rfl) rfl rfl)
    have z38 : T[38]?.getD undef = _ := Array.getD_eq_getD_getElem?.symm.trans e38
    rw [if_pos (wanted_none _ rfl)]
    clear hd hB
    go_simp
    exact hK _ _ (Below.refl _ _) ⟨_, rfl, by assumption, by assumption⟩
  refine DetJ.cons (o := { dst := some 10, op := Op.alloc 30, type := 0, pos := "law.go:227", after := #[], guard := none }) (fun _ _ => True) rfl (by decide) (fun _ _ _ _ _ => trivial) (fun v d T w' hb hj hd0 hd hdd hB K hK => ?sx13) ?rx13
  case sx13 =>
    rw [if_pos (wanted_none _ rfl)]
    clear hd hdd hB
    go_simp
    exact hK _ _ (KeepBlk.of_below 2 _ _ (below_alloc (Below.refl _ _) _)) (below_alloc hb _) trivial (Boxes.alloc 12 (by decide) (by decide) v d w' hj hd0 hb.size)
  refine DetJ.cons (o := { dst := some 11, op := Op.alloc 30, type := 0, pos := "law.go:227", after := #[], guard := none }) (fun _ _ => True) rfl (by decide) (fun _ _ _ _ _ => trivial) (fun v d T w' hb hj hd0 hd hdd hB K hK => ?sx14) ?rx14
  case sx14 =>
    rw [if_pos (wanted_none _ rfl)]
    clear hd hdd hB
    go_simp
    exact hK _ _ (KeepBlk.of_below 2 _ _ (below_alloc (Below.refl _ _) _)) (below_alloc hb _) trivial (Boxes.alloc 13 (by decide) (by decide) v d w' hj hd0 hb.size)
  refine DetJ.cons (o := { dst := none, op := Op.store 30 (Operand.tmp 10) (Operand.tmp 33), type := 0, pos := "law.go:227", after := #[{ on := 12, ground := Ground.data }, { on := 5, ground := Ground.data }, { on := 0, ground := Ground.phase }, { on := 1, ground := Ground.phase }, { on := 2, ground := Ground.phase }, { on := 3, ground := Ground.phase }, { on := 4, ground := Ground.phase }, { on := 5, ground := Ground.phase }, { on := 6, ground := Ground.textOnly Departure.lateStores }, { on := 7, ground := Ground.textOnly Departure.lateStores }, { on := 8, ground := Ground.textOnly Departure.lateStores }, { on := 9, ground := Ground.textOnly Departure.lateStores }, { on := 10, ground := Ground.textOnly Departure.lateStores }, { on := 11, ground := Ground.textOnly Departure.lateStores }, { on := 12, ground := Ground.phase }, { on := 13, ground := Ground.phase }], guard := none }) (fun _ _ => True) rfl (by decide) (fun _ _ _ _ _ => trivial) (fun v d T w' hb hj hd0 hd hdd hB K hK => ?sx15) ?rx15
  case sx15 =>
    have e10 := (hdd 12 (by kernel_rfl)).2 10 rfl
    obtain ⟨gs33, e33, hge33, hbs33⟩ := (hd 5 33 _ (by decide) (by kernel_rfl) rfl rfl)
    rw [if_pos (wanted_none _ rfl)]
    have ea := (hdd 12 (by kernel_rfl)).1
    have ex := (hdd 5 (by kernel_rfl)).1
    have vx := (hdd 5 (by kernel_rfl)).2 33 rfl
    obtain ⟨g, va, hge, hlt, hbx⟩ := hj.1 ⟨12, 14, 5⟩ (by simp) ea
    rw [if_neg (by rw [show d 14 = false from hd0]; decide)] at hbx
    replace e10 := e10.trans va
    have q0 : w'.cell? ⟨g, 0, none⟩ = some (.int .i64 0) := (blk_cell hbx 0).trans rfl
    have q1 : w'.cell? ⟨g, 1, none⟩ = some (.slice none 0 0) := (blk_cell hbx 1).trans rfl
    have z0 := blk_frozen hbx 0
    have z1 := blk_frozen hbx 1
    have hd0' := Aside0.mk hd0
    have vx' := Aside0.mk (vx.symm.trans e33)
    clear hd hdd hB vx hd0
    go_simp
    refine hK undef _ (KeepBlk.setCell2 hbx rfl) ((hb.setCell hge _).setCell hge _) trivial (Boxes.fill ⟨12, 14, 5⟩ (by simp) (by intro b' h; simp at h; rcases h with rfl | rfl <;> simp) (by decide) (by decide) (by intro b' h; simp at h; rcases h with rfl | rfl <;> simp) v d w' _ _ g hj ea ex va ?_ (fun k hk => setCell2_far k hk) (by rw [setCell_size, setCell_size]))
    refine (blk_set (blk_set hbx 0 _) 1 _).trans ?_
    show some (Obj.cells _ 30 (0, 0)) = some (Obj.cells (cellsOf (v 5)) 30 (0, 0))
    rw [vx'.out]
    rfl
  refine DetJ.cons (o := { dst := none, op := Op.store 30 (Operand.tmp 11) (Operand.tmp 39), type := 0, pos := "law.go:227", after := #[{ on := 13, ground := Ground.data }, { on := 11, ground := Ground.data }, { on := 14, ground := Ground.chain }, { on := 0, ground := Ground.phase }, { on := 1, ground := Ground.phase }, { on := 2, ground := Ground.phase }, { on := 3, ground := Ground.phase }, { on := 4, ground := Ground.phase }, { on := 5, ground := Ground.phase }, { on := 6, ground := Ground.phase }, { on := 7, ground := Ground.phase }, { on := 8, ground := Ground.phase }, { on := 9, ground := Ground.phase }, { on := 10, ground := Ground.phase }, { on := 11, ground := Ground.phase }, { on := 12, ground := Ground.phase }, { on := 13, ground := Ground.phase }, { on := 14, ground := Ground.phase }], guard := none }) (fun _ _ => True) rfl (by decide) (fun _ _ _ _ _ => trivial) (fun v d T w' hb hj hd0 hd hdd hB K hK => ?sx16) ?rx16
  case sx16 =>
    have e11 := (hdd 13 (by kernel_rfl)).2 11 rfl
    obtain ⟨gs39, e39, hge39, hbs39⟩ := (hd 11 39 _ (by decide) (by kernel_rfl) rfl rfl)
    rw [if_pos (wanted_none _ rfl)]
    have ea := (hdd 13 (by kernel_rfl)).1
    have ex := (hdd 11 (by kernel_rfl)).1
    have vx := (hdd 11 (by kernel_rfl)).2 39 rfl
    obtain ⟨g, va, hge, hlt, hbx⟩ := hj.1 ⟨13, 15, 11⟩ (by simp) ea
    rw [if_neg (by rw [show d 15 = false from hd0]; decide)] at hbx
    replace e11 := e11.trans va
    have q0 : w'.cell? ⟨g, 0, none⟩ = some (.int .i64 0) := (blk_cell hbx 0).trans rfl
    have q1 : w'.cell? ⟨g, 1, none⟩ = some (.slice none 0 0) := (blk_cell hbx 1).trans rfl
    have z0 := blk_frozen hbx 0
    have z1 := blk_frozen hbx 1
    have hd0' := Aside0.mk hd0
    have vx' := Aside0.mk (vx.symm.trans e39)
    clear hd hdd hB vx hd0
    go_simp
    refine hK undef _ (KeepBlk.setCell2 hbx rfl) ((hb.setCell hge _).setCell hge _) trivial (Boxes.fill ⟨13, 15, 11⟩ (by simp) (by intro b' h; simp at h; rcases h with rfl | rfl <;> simp) (by decide) (by decide) (by intro b' h; simp at h; rcases h with rfl | rfl <;> simp) v d w' _ _ g hj ea ex va ?_ (fun k hk => setCell2_far k hk) (by rw [setCell_size, setCell_size]))
    refine (blk_set (blk_set hbx 0 _) 1 _).trans ?_
    show some (Obj.cells _ 30 (0, 0)) = some (Obj.cells (cellsOf (v 11)) 30 (0, 0))
    rw [vx'.out]
    rfl
  refine DetJ.done [some 28, some 29, some 30, some 31, some 32, some 33, some 34, some 35, some 36, some 37, some 38, some 39, some 10, some 11, none, none] (by kernel_rfl) rfl rfl ?_
  intro v d w' hb hv hall hj
  obtain ⟨gs1, f5, hs1, hbs1⟩ := hv 5 _ (by decide) rfl
  obtain ⟨gs2, f11, hs2, hbs2⟩ := hv 11 _ (by decide) rfl
  obtain ⟨gp, f12, hgp, _, hbp⟩ := hj.1 ⟨12, 14, 5⟩ (by simp) (hall 12 (by decide))
  obtain ⟨gq, f13, hgq, _, hbq⟩ := hj.1 ⟨13, 15, 11⟩ (by simp) (hall 13 (by decide))
  have hpq : gp ≠ gq := fun e => hj.2.2 ⟨12, 14, 5⟩ (by simp) ⟨13, 15, 11⟩ (by simp) (by decide) (hall 12 (by decide)) (hall 13 (by decide)) (f12.trans (e ▸ f13.symm))
  rw [if_pos (hall 14 (by decide)), show cellsOf (v 5) = _ from congrArg cellsOf f5] at hbp
  rw [if_pos (hall 15 (by decide)), show cellsOf (v 11) = _ from congrArg cellsOf f11] at hbq
  exact hQ v w' gs1 gs2 gp gq f12 f13 hgp hgq hpq hbp hbq hbs1 hbs2 hb

set_option maxHeartbeats 4000000 in
set_option maxRecDepth 100000 in
theorem TermSame_r11 {id : Nat} {a : Act} {w : World} {Q : Exit → Act → World → Prop} {f k : Int} {s s2 : Bool} {ga gp gq gc gv gs : Nat} {xf xl ql cf cl vf vl y1 y2 : Value}
    (hr : regionOk #[{ dst := some 52, op := Op.load 30 (Operand.tmp 10), type := 30, pos := "law.go:231", after := #[], guard := none }, { dst := some 53, op := Op.load 30 (Operand.tmp 11), type := 30, pos := "law.go:231", after := #[], guard := none }, { dst := some 54, op := Op.call { callee := Callee.value (Operand.func 37), args := #[Operand.tmp 52, Operand.tmp 53], argTypes := #[30, 30] }, type := 4, pos := "law.go:231", after := #[{ on := 0, ground := Ground.data }, { on := 1, ground := Ground.data }], guard := none }, { dst := some 55, op := Op.move (Operand.tmp 9), type := 4, pos := "law.go:231", after := #[], guard := none }, { dst := some 56, op := Op.binOp BinOp.eql 4 (Operand.tmp 54) (Operand.tmp 55) 4, type := 4, pos := "law.go:231", after := #[{ on := 2, ground := Ground.data }, { on := 3, ground := Ground.data }], guard := none }, { dst := some 57, op := Op.move (Operand.tmp 56), type := 4, pos := "law.go:231", after := #[{ on := 4, ground := Ground.data }, { on := 2, ground := Ground.chain }], guard := none }, { dst := some 58, op := Op.load 30 (Operand.tmp 7), type := 30, pos := "law.go:231", after := #[{ on := 5, ground := Ground.guard }], guard := some (5, true) }, { dst := some 59, op := Op.fieldAddr 30 (Operand.tmp 10) 1, type := 0, pos := "law.go:231", after := #[{ on := 5, ground := Ground.guard }], guard := some (5, true) }, { dst := some 60, op := Op.load 28 (Operand.tmp 59), type := 28, pos := "law.go:231", after := #[{ on := 7, ground := Ground.data }, { on := 5, ground := Ground.guard }], guard := some (5, true) }, { dst := some 61, op := Op.indexAddr 28 (Operand.tmp 60) (Operand.const (Value.int IntKind.i64 0)), type := 0, pos := "law.go:231", after := #[{ on := 8, ground := Ground.data }, { on := 5, ground := Ground.guard }], guard := some (5, true) }, { dst := some 62, op := Op.load 30 (Operand.tmp 61), type := 30, pos := "law.go:231", after := #[{ on := 9, ground := Ground.data }, { on := 5, ground := Ground.guard }], guard := some (5, true) }, { dst := some 63, op := Op.call { callee := Callee.value (Operand.func 37), args := #[Operand.tmp 58, Operand.tmp 62], argTypes := #[30, 30] }, type := 4, pos := "law.go:231", after := #[{ on := 6, ground := Ground.data }, { on := 10, ground := Ground.data }, { on := 5, ground := Ground.chain }, { on := 5, ground := Ground.guard }], guard := some (5, true) }, { dst := some 64, op := Op.pick (Operand.tmp 57) (Operand.tmp 63) (Operand.const (Value.bool false)), type := 4, pos := "law.go:231", after := #[{ on := 5, ground := Ground.data }, { on := 11, ground := Ground.data }], guard := none }, { dst := some 65, op := Op.move (Operand.tmp 64), type := 4, pos := "law.go:231", after := #[{ on := 12, ground := Ground.data }, { on := 11, ground := Ground.chain }], guard := none }, { dst := some 66, op := Op.load 30 (Operand.tmp 12), type := 30, pos := "law.go:231", after := #[{ on := 13, ground := Ground.guard }], guard := some (13, true) }, { dst := some 67, op := Op.load 30 (Operand.tmp 10), type := 30, pos := "law.go:231", after := #[{ on := 13, ground := Ground.guard }], guard := some (13, true) }, { dst := some 68, op := Op.call { callee := Callee.value (Operand.func 37), args := #[Operand.tmp 66, Operand.tmp 67], argTypes := #[30, 30] }, type := 4, pos := "law.go:231", after := #[{ on := 14, ground := Ground.data }, { on := 15, ground := Ground.data }, { on := 13, ground := Ground.chain }, { on := 13, ground := Ground.guard }], guard := some (13, true) }, { dst := some 69, op := Op.unOp UnOp.not 4 (Operand.tmp 68), type := 4, pos := "law.go:231", after := #[{ on := 16, ground := Ground.data }, { on := 13, ground := Ground.guard }], guard := some (13, true) }, { dst := some 70, op := Op.load 30 (Operand.tmp 7), type := 30, pos := "law.go:231", after := #[{ on := 13, ground := Ground.guard }], guard := some (13, true) }, { dst := some 71, op := Op.build 30 #[(0, Operand.const (Value.int IntKind.i64 999))], type := 30, pos := "law.go:231", after := #[{ on := 13, ground := Ground.guard }], guard := some (13, true) }, { dst := some 72, op := Op.call { callee := Callee.value (Operand.func 37), args := #[Operand.tmp 70, Operand.tmp 71], argTypes := #[30, 30] }, type := 4, pos := "law.go:231", after := #[{ on := 18, ground := Ground.data }, { on := 19, ground := Ground.data }, { on := 16, ground := Ground.chain }, { on := 13, ground := Ground.guard }], guard := some (13, true) }, { dst := some 73, op := Op.unOp UnOp.not 4 (Operand.tmp 72), type := 4, pos := "law.go:231", after := #[{ on := 20, ground := Ground.data }, { on := 13, ground := Ground.guard }], guard := some (13, true) }, { dst := some 74, op := Op.binOp BinOp.eql 4 (Operand.tmp 69) (Operand.tmp 73) 4, type := 4, pos := "law.go:231", after := #[{ on := 17, ground := Ground.data }, { on := 21, ground := Ground.data }, { on := 13, ground := Ground.guard }], guard := some (13, true) }, { dst := some 75, op := Op.pick (Operand.tmp 65) (Operand.tmp 74) (Operand.const (Value.bool false)), type := 4, pos := "law.go:231", after := #[{ on := 13, ground := Ground.data }, { on := 22, ground := Ground.data }], guard := none }, { dst := some 76, op := Op.move (Operand.tmp 75), type := 4, pos := "law.go:231", after := #[{ on := 23, ground := Ground.data }, { on := 20, ground := Ground.chain }], guard := none }, { dst := some 77, op := Op.load 30 (Operand.tmp 13), type := 30, pos := "law.go:231", after := #[{ on := 24, ground := Ground.guard }], guard := some (24, true) }, { dst := some 78, op := Op.move (Operand.tmp 2), type := 5, pos := "law.go:231", after := #[{ on := 24, ground := Ground.guard }], guard := some (24, true) }, { dst := some 79, op := Op.convert 5 3 (Operand.tmp 78), type := 3, pos := "law.go:231", after := #[{ on := 26, ground := Ground.data }, { on := 24, ground := Ground.guard }], guard := some (24, true) }, { dst := some 80, op := Op.binOp BinOp.sub 3 (Operand.const (Value.int IntKind.i64 (-1))) (Operand.tmp 79) 3, type := 3, pos := "law.go:231", after := #[{ on := 27, ground := Ground.data }, { on := 24, ground := Ground.guard }], guard := some (24, true) }, { dst := some 81, op := Op.build 30 #[(0, Operand.tmp 80)], type := 30, pos := "law.go:231", after := #[{ on := 28, ground := Ground.data }, { on := 24, ground := Ground.guard }], guard := some (24, true) }, { dst := some 82, op := Op.call { callee := Callee.value (Operand.func 37), args := #[Operand.tmp 77, Operand.tmp 81], argTypes := #[30, 30] }, type := 4, pos := "law.go:231", after := #[{ on := 25, ground := Ground.data }, { on := 29, ground := Ground.data }, { on := 24, ground := Ground.chain }, { on := 24, ground := Ground.guard }], guard := some (24, true) }, { dst := some 83, op := Op.pick (Operand.tmp 76) (Operand.tmp 82) (Operand.const (Value.bool false)), type := 4, pos := "law.go:231", after := #[{ on := 24, ground := Ground.data }, { on := 30, ground := Ground.data }], guard := none }, { dst := some 84, op := Op.move (Operand.tmp 83), type := 4, pos := "law.go:231", after := #[{ on := 31, ground := Ground.data }, { on := 30, ground := Ground.chain }], guard := none }, { dst := some 85, op := Op.load 30 (Operand.tmp 13), type := 30, pos := "law.go:231", after := #[{ on := 32, ground := Ground.guard }], guard := some (32, true) }, { dst := some 86, op := Op.call { callee := Callee.value (Operand.func 23), args := #[Operand.tmp 85], argTypes := #[30] }, type := 32, pos := "law.go:231", after := #[{ on := 33, ground := Ground.data }, { on := 32, ground := Ground.chain }, { on := 32, ground := Ground.guard }], guard := some (32, true) }, { dst := some 87, op := Op.call { callee := Callee.builtin Builtin.len, args := #[Operand.tmp 86], argTypes := #[32] }, type := 3, pos := "law.go:231", after := #[{ on := 34, ground := Ground.data }, { on := 32, ground := Ground.guard }], guard := some (32, true) }, { dst := some 88, op := Op.binOp BinOp.eql 3 (Operand.tmp 87) (Operand.const (Value.int IntKind.i64 1)) 3, type := 4, pos := "law.go:231", after := #[{ on := 35, ground := Ground.data }, { on := 32, ground := Ground.guard }], guard := some (32, true) }, { dst := some 89, op := Op.pick (Operand.tmp 84) (Operand.tmp 88) (Operand.const (Value.bool false)), type := 4, pos := "law.go:231", after := #[{ on := 32, ground := Ground.data }, { on := 36, ground := Ground.data }], guard := none }, { dst := some 90, op := Op.move (Operand.tmp 89), type := 4, pos := "law.go:231", after := #[{ on := 37, ground := Ground.data }, { on := 34, ground := Ground.chain }], guard := none }, { dst := some 91, op := Op.load 30 (Operand.tmp 10), type := 30, pos := "law.go:231", after := #[{ on := 38, ground := Ground.guard }], guard := some (38, true) }, { dst := some 92, op := Op.load 30 (Operand.tmp 11), type := 30, pos := "law.go:231", after := #[{ on := 38, ground := Ground.guard }], guard := some (38, true) }, { dst := some 93, op := Op.call { callee := Callee.value (Operand.func 36), args := #[Operand.tmp 91, Operand.tmp 92], argTypes := #[30, 30] }, type := 3, pos := "law.go:231", after := #[{ on := 39, ground := Ground.data }, { on := 40, ground := Ground.data }, { on := 38, ground := Ground.chain }, { on := 38, ground := Ground.guard }], guard := some (38, true) }, { dst := some 94, op := Op.binOp BinOp.eql 3 (Operand.tmp 93) (Operand.const (Value.int IntKind.i64 0)) 3, type := 4, pos := "law.go:231", after := #[{ on := 41, ground := Ground.data }, { on := 38, ground := Ground.guard }], guard := some (38, true) }, { dst := some 95, op := Op.move (Operand.tmp 9), type := 4, pos := "law.go:231", after := #[{ on := 38, ground := Ground.guard }], guard := some (38, true) }, { dst := some 96, op := Op.binOp BinOp.eql 4 (Operand.tmp 94) (Operand.tmp 95) 4, type := 4, pos := "law.go:231", after := #[{ on := 42, ground := Ground.data }, { on := 43, ground := Ground.data }, { on := 38, ground := Ground.guard }], guard := some (38, true) }, { dst := some 97, op := Op.pick (Operand.tmp 90) (Operand.tmp 96) (Operand.const (Value.bool false)), type := 4, pos := "law.go:231", after := #[{ on := 38, ground := Ground.data }, { on := 44, ground := Ground.data }], guard := none }, { dst := some 98, op := Op.move (Operand.tmp 97), type := 4, pos := "law.go:231", after := #[{ on := 45, ground := Ground.data }, { on := 41, ground := Ground.chain }], guard := none }, { dst := some 99, op := Op.load 30 (Operand.tmp 10), type := 30, pos := "law.go:231", after := #[{ on := 46, ground := Ground.guard }], guard := some (46, true) }, { dst := some 100, op := Op.move (Operand.tmp 2), type := 5, pos := "law.go:231", after := #[{ on := 46, ground := Ground.guard }], guard := some (46, true) }, { dst := some 101, op := Op.convert 5 3 (Operand.tmp 100), type := 3, pos := "law.go:231", after := #[{ on := 48, ground := Ground.data }, { on := 46, ground := Ground.guard }], guard := some (46, true) }, { dst := some 102, op := Op.load 30 (Operand.tmp 7), type := 30, pos := "law.go:231", after := #[{ on := 46, ground := Ground.guard }], guard := some (46, true) }, { dst := some 103, op := Op.buildSlice 28 1 #[(0, Operand.tmp 102)], type := 28, pos := "law.go:231", after := #[{ on := 50, ground := Ground.data }, { on := 46, ground := Ground.guard }], guard := some (46, true) }, { dst := some 104, op := Op.build 30 #[(0, Operand.tmp 101), (1, Operand.tmp 103)], type := 30, pos := "law.go:231", after := #[{ on := 49, ground := Ground.data }, { on := 51, ground := Ground.data }, { on := 46, ground := Ground.guard }], guard := some (46, true) }, { dst := some 105, op := Op.call { callee := Callee.value (Operand.func 37), args := #[Operand.tmp 99, Operand.tmp 104], argTypes := #[30, 30] }, type := 4, pos := "law.go:231", after := #[{ on := 47, ground := Ground.data }, { on := 52, ground := Ground.data }, { on := 46, ground := Ground.chain }, { on := 46, ground := Ground.guard }], guard := some (46, true) }, { dst := some 106, op := Op.unOp UnOp.not 4 (Operand.tmp 105), type := 4, pos := "law.go:231", after := #[{ on := 53, ground := Ground.data }, { on := 46, ground := Ground.guard }], guard := some (46, true) }, { dst := some 107, op := Op.pick (Operand.tmp 98) (Operand.tmp 106) (Operand.const (Value.bool false)), type := 4, pos := "law.go:231", after := #[{ on := 46, ground := Ground.data }, { on := 54, ground := Ground.data }], guard := none }, { dst := some 6, op := Op.assign (Operand.tmp 107), type := 4, pos := "law.go:231", after := #[{ on := 55, ground := Ground.data }, { on := 53, ground := Ground.chain }, { on := 0, ground := Ground.phase }, { on := 1, ground := Ground.phase }, { on := 2, ground := Ground.phase }, { on := 3, ground := Ground.phase }, { on := 4, ground := Ground.phase }, { on := 5, ground := Ground.phase }, { on := 6, ground := Ground.phase }, { on := 7, ground := Ground.phase }, { on := 8, ground := Ground.phase }, { on := 9, ground := Ground.phase }, { on := 10, ground := Ground.phase }, { on := 11, ground := Ground.phase }, { on := 12, ground := Ground.phase }, { on := 13, ground := Ground.phase }, { on := 14, ground := Ground.phase }, { on := 15, ground := Ground.phase }, { on := 16, ground := Ground.phase }, { on := 17, ground := Ground.phase }, { on := 18, ground := Ground.phase }, { on := 19, ground := Ground.phase }, { on := 20, ground := Ground.phase }, { on := 21, ground := Ground.phase }, { on := 22, ground := Ground.phase }, { on := 23, ground := Ground.phase }, { on := 24, ground := Ground.phase }, { on := 25, ground := Ground.phase }, { on := 26, ground := Ground.phase }, { on := 27, ground := Ground.phase }, { on := 28, ground := Ground.phase }, { on := 29, ground := Ground.phase }, { on := 30, ground := Ground.phase }, { on := 31, ground := Ground.phase }, { on := 32, ground := Ground.phase }, { on := 33, ground := Ground.phase }, { on := 34, ground := Ground.phase }, { on := 35, ground := Ground.phase }, { on := 36, ground := Ground.phase }, { on := 37, ground := Ground.phase }, { on := 38, ground := Ground.phase }, { on := 39, ground := Ground.phase }, { on := 40, ground := Ground.phase }, { on := 41, ground := Ground.phase }, { on := 42, ground := Ground.phase }, { on := 43, ground := Ground.phase }, { on := 44, ground := Ground.phase }, { on := 45, ground := Ground.phase }, { on := 46, ground := Ground.phase }, { on := 47, ground := Ground.phase }, { on := 48, ground := Ground.phase }, { on := 49, ground := Ground.phase }, { on := 50, ground := Ground.phase }, { on := 51, ground := Ground.phase }, { on := 52, ground := Ground.phase }, { on := 53, ground := Ground.phase }, { on := 54, ground := Ground.phase }, { on := 55, ground := Ground.phase }], guard := none }] a.tmps.size = true)
    (hT2 : a.tmps.getD 2 undef = .int .u8 f)
    (hT9 : a.tmps.getD 9 undef = .bool s)
    (hT7 : a.tmps.getD 7 undef = .pointer (some ⟨ga, 0, none⟩)) (hX7 : w.heap[ga]? = some (.cells #[xf, xl] 30 (0, 0)))
    (hT10 : a.tmps.getD 10 undef = .pointer (some ⟨gp, 0, none⟩)) (hX10 : w.heap[gp]? = some (.cells #[.int .i64 f, .slice (some ⟨gs, 0, none⟩) 2 2] 30 (0, 0)))
    (hT11 : a.tmps.getD 11 undef = .pointer (some ⟨gq, 0, none⟩)) (hX11 : w.heap[gq]? = some (.cells #[.int .i64 f, ql] 30 (0, 0)))
    (hT12 : a.tmps.getD 12 undef = .pointer (some ⟨gc, 0, none⟩)) (hX12 : w.heap[gc]? = some (.cells #[cf, cl] 30 (0, 0)))
    (hT13 : a.tmps.getD 13 undef = .pointer (some ⟨gv, 0, none⟩)) (hX13 : w.heap[gv]? = some (.cells #[vf, vl] 30 (0, 0)))
    (hF2 : ∀ w1, Below w.heap.size w w1 → Calls Try.prog 37 #[.agg #[.int .i64 f, .slice (some ⟨gs, 0, none⟩) 2 2], .agg #[.int .i64 f, ql]] w1 fun e w2 => e = .returned (.bool s) ∧ Below w1.heap.size w1 w2)
    (hF11 : ∀ w1, Below w.heap.size w w1 → Calls Try.prog 37 #[.agg #[xf, xl], .agg #[xf, xl]] w1 fun e w2 => e = .returned (.bool true) ∧ Below w1.heap.size w1 w2)
    (hF16 : ∀ w1, Below w.heap.size w w1 → Calls Try.prog 37 #[.agg #[cf, cl], .agg #[.int .i64 f, .slice (some ⟨gs, 0, none⟩) 2 2]] w1 fun e w2 => e = .returned (.bool s2) ∧ Below w1.heap.size w1 w2)
    (hF20 : ∀ w1, Below w.heap.size w w1 → Calls Try.prog 37 #[.agg #[xf, xl], .agg #[.int .i64 999, .slice none 0 0]] w1 fun e w2 => e = .returned (.bool s2) ∧ Below w1.heap.size w1 w2)
    (hF30 : ∀ w1, Below w.heap.size w w1 → Calls Try.prog 37 #[.agg #[vf, vl], .agg #[.int .i64 (-1 - f), .slice none 0 0]] w1 fun e w2 => e = .returned (.bool true) ∧ Below w1.heap.size w1 w2)
    (hF34 : ∀ w1, Below w.heap.size w w1 → Calls Try.prog 23 #[.agg #[vf, vl]] w1 fun e w2 => ∃ u, e = .returned u ∧ (fun u _ => ∃ A c, u = .slice A 1 c) u w2 ∧ Below w1.heap.size w1 w2)
    (hF41 : ∀ w1, Below w.heap.size w w1 → Calls Try.prog 36 #[.agg #[.int .i64 f, .slice (some ⟨gs, 0, none⟩) 2 2], .agg #[.int .i64 f, ql]] w1 fun e w2 => e = .returned (.int .i64 k) ∧ Below w1.heap.size w1 w2)
    (hf : 0 ≤ f ∧ f ≤ 255) (hk : (k == 0) = s) (hXs : w.heap[gs]? = some (.cells #[xf, xl, y1, y2] 30 (0, 0)))
    (hS : ∀ (w1 : World) (g : Nat), Below w.heap.size w w1 → w1.heap[g]? = some (.cells #[xf, xl] 30 (0, 0)) → Calls Try.prog 37 #[.agg #[.int .i64 f, .slice (some ⟨gs, 0, none⟩) 2 2], .agg #[.int .i64 f, .slice (some ⟨g, 0, none⟩) 1 1]] w1 fun e w2 => e = .returned (.bool false) ∧ Below w1.heap.size w1 w2)
    (hK : ∀ v w', Below w.heap.size w w' → v 56 = .bool true → Q .normal { tmps := layL [some 52, some 53, some 54, some 55, some 56, some 57, some 58, some 59, some 60, some 61, some 62, some 63, some 64, some 65, some 66, some 67, some 68, some 69, some 70, some 71, some 72, some 73, some 74, some 75, some 76, some 77, some 78, some 79, some 80, some 81, some 82, some 83, some 84, some 85, some 86, some 87, some 88, some 89, some 90, some 91, some 92, some 93, some 94, some 95, some 96, some 97, some 98, some 99, some 100, some 101, some 102, some 103, some 104, some 105, some 106, some 107, some 6] 0 v a.tmps, defers := a.defers } w') :
    (Code.region id #[{ dst := some 52, op := Op.load 30 (Operand.tmp 10), type := 30, pos := "law.go:231", after := #[], guard := none }, { dst := some 53, op := Op.load 30 (Operand.tmp 11), type := 30, pos := "law.go:231", after := #[], guard := none }, { dst := some 54, op := Op.call { callee := Callee.value (Operand.func 37), args := #[Operand.tmp 52, Operand.tmp 53], argTypes := #[30, 30] }, type := 4, pos := "law.go:231", after := #[{ on := 0, ground := Ground.data }, { on := 1, ground := Ground.data }], guard := none }, { dst := some 55, op := Op.move (Operand.tmp 9), type := 4, pos := "law.go:231", after := #[], guard := none }, { dst := some 56, op := Op.binOp BinOp.eql 4 (Operand.tmp 54) (Operand.tmp 55) 4, type := 4, pos := "law.go:231", after := #[{ on := 2, ground := Ground.data }, { on := 3, ground := Ground.data }], guard := none }, { dst := some 57, op := Op.move (Operand.tmp 56), type := 4, pos := "law.go:231", after := #[{ on := 4, ground := Ground.data }, { on := 2, ground := Ground.chain }], guard := none }, { dst := some 58, op := Op.load 30 (Operand.tmp 7), type := 30, pos := "law.go:231", after := #[{ on := 5, ground := Ground.guard }], guard := some (5, true) }, { dst := some 59, op := Op.fieldAddr 30 (Operand.tmp 10) 1, type := 0, pos := "law.go:231", after := #[{ on := 5, ground := Ground.guard }], guard := some (5, true) }, { dst := some 60, op := Op.load 28 (Operand.tmp 59), type := 28, pos := "law.go:231", after := #[{ on := 7, ground := Ground.data }, { on := 5, ground := Ground.guard }], guard := some (5, true) }, { dst := some 61, op := Op.indexAddr 28 (Operand.tmp 60) (Operand.const (Value.int IntKind.i64 0)), type := 0, pos := "law.go:231", after := #[{ on := 8, ground := Ground.data }, { on := 5, ground := Ground.guard }], guard := some (5, true) }, { dst := some 62, op := Op.load 30 (Operand.tmp 61), type := 30, pos := "law.go:231", after := #[{ on := 9, ground := Ground.data }, { on := 5, ground := Ground.guard }], guard := some (5, true) }, { dst := some 63, op := Op.call { callee := Callee.value (Operand.func 37), args := #[Operand.tmp 58, Operand.tmp 62], argTypes := #[30, 30] }, type := 4, pos := "law.go:231", after := #[{ on := 6, ground := Ground.data }, { on := 10, ground := Ground.data }, { on := 5, ground := Ground.chain }, { on := 5, ground := Ground.guard }], guard := some (5, true) }, { dst := some 64, op := Op.pick (Operand.tmp 57) (Operand.tmp 63) (Operand.const (Value.bool false)), type := 4, pos := "law.go:231", after := #[{ on := 5, ground := Ground.data }, { on := 11, ground := Ground.data }], guard := none }, { dst := some 65, op := Op.move (Operand.tmp 64), type := 4, pos := "law.go:231", after := #[{ on := 12, ground := Ground.data }, { on := 11, ground := Ground.chain }], guard := none }, { dst := some 66, op := Op.load 30 (Operand.tmp 12), type := 30, pos := "law.go:231", after := #[{ on := 13, ground := Ground.guard }], guard := some (13, true) }, { dst := some 67, op := Op.load 30 (Operand.tmp 10), type := 30, pos := "law.go:231", after := #[{ on := 13, ground := Ground.guard }], guard := some (13, true) }, { dst := some 68, op := Op.call { callee := Callee.value (Operand.func 37), args := #[Operand.tmp 66, Operand.tmp 67], argTypes := #[30, 30] }, type := 4, pos := "law.go:231", after := #[{ on := 14, ground := Ground.data }, { on := 15, ground := Ground.data }, { on := 13, ground := Ground.chain }, { on := 13, ground := Ground.guard }], guard := some (13, true) }, { dst := some 69, op := Op.unOp UnOp.not 4 (Operand.tmp 68), type := 4, pos := "law.go:231", after := #[{ on := 16, ground := Ground.data }, { on := 13, ground := Ground.guard }], guard := some (13, true) }, { dst := some 70, op := Op.load 30 (Operand.tmp 7), type := 30, pos := "law.go:231", after := #[{ on := 13, ground := Ground.guard }], guard := some (13, true) }, { dst := some 71, op := Op.build 30 #[(0, Operand.const (Value.int IntKind.i64 999))], type := 30, pos := "law.go:231", after := #[{ on := 13, ground := Ground.guard }], guard := some (13, true) }, { dst := some 72, op := Op.call { callee := Callee.value (Operand.func 37), args := #[Operand.tmp 70, Operand.tmp 71], argTypes := #[30, 30] }, type := 4, pos := "law.go:231", after := #[{ on := 18, ground := Ground.data }, { on := 19, ground := Ground.data }, { on := 16, ground := Ground.chain }, { on := 13, ground := Ground.guard }], guard := some (13, true) }, { dst := some 73, op := Op.unOp UnOp.not 4 (Operand.tmp 72), type := 4, pos := "law.go:231", after := #[{ on := 20, ground := Ground.data }, { on := 13, ground := Ground.guard }], guard := some (13, true) }, { dst := some 74, op := Op.binOp BinOp.eql 4 (Operand.tmp 69) (Operand.tmp 73) 4, type := 4, pos := "law.go:231", after := #[{ on := 17, ground := Ground.data }, { on := 21, ground := Ground.data }, { on := 13, ground := Ground.guard }], guard := some (13, true) }, { dst := some 75, op := Op.pick (Operand.tmp 65) (Operand.tmp 74) (Operand.const (Value.bool false)), type := 4, pos := "law.go:231", after := #[{ on := 13, ground := Ground.data }, { on := 22, ground := Ground.data }], guard := none }, { dst := some 76, op := Op.move (Operand.tmp 75), type := 4, pos := "law.go:231", after := #[{ on := 23, ground := Ground.data }, { on := 20, ground := Ground.chain }], guard := none }, { dst := some 77, op := Op.load 30 (Operand.tmp 13), type := 30, pos := "law.go:231", after := #[{ on := 24, ground := Ground.guard }], guard := some (24, true) }, { dst := some 78, op := Op.move (Operand.tmp 2), type := 5, pos := "law.go:231", after := #[{ on := 24, ground := Ground.guard }], guard := some (24, true) }, { dst := some 79, op := Op.convert 5 3 (Operand.tmp 78), type := 3, pos := "law.go:231", after := #[{ on := 26, ground := Ground.data }, { on := 24, ground := Ground.guard }], guard := some (24, true) }, { dst := some 80, op := Op.binOp BinOp.sub 3 (Operand.const (Value.int IntKind.i64 (-1))) (Operand.tmp 79) 3, type := 3, pos := "law.go:231", after := #[{ on := 27, ground := Ground.data }, { on := 24, ground := Ground.guard }], guard := some (24, true) }, { dst := some 81, op := Op.build 30 #[(0, Operand.tmp 80)], type := 30, pos := "law.go:231", after := #[{ on := 28, ground := Ground.data }, { on := 24, ground := Ground.guard }], guard := some (24, true) }, { dst := some 82, op := Op.call { callee := Callee.value (Operand.func 37), args := #[Operand.tmp 77, Operand.tmp 81], argTypes := #[30, 30] }, type := 4, pos := "law.go:231", after := #[{ on := 25, ground := Ground.data }, { on := 29, ground := Ground.data }, { on := 24, ground := Ground.chain }, { on := 24, ground := Ground.guard }], guard := some (24, true) }, { dst := some 83, op := Op.pick (Operand.tmp 76) (Operand.tmp 82) (Operand.const (Value.bool false)), type := 4, pos := "law.go:231", after := #[{ on := 24, ground := Ground.data }, { on := 30, ground := Ground.data }], guard := none }, { dst := some 84, op := Op.move (Operand.tmp 83), type := 4, pos := "law.go:231", after := #[{ on := 31, ground := Ground.data }, { on := 30, ground := Ground.chain }], guard := none }, { dst := some 85, op := Op.load 30 (Operand.tmp 13), type := 30, pos := "law.go:231", after := #[{ on := 32, ground := Ground.guard }], guard := some (32, true) }, { dst := some 86, op := Op.call { callee := Callee.value (Operand.func 23), args := #[Operand.tmp 85], argTypes := #[30] }, type := 32, pos := "law.go:231", after := #[{ on := 33, ground := Ground.data }, { on := 32, ground := Ground.chain }, { on := 32, ground := Ground.guard }], guard := some (32, true) }, { dst := some 87, op := Op.call { callee := Callee.builtin Builtin.len, args := #[Operand.tmp 86], argTypes := #[32] }, type := 3, pos := "law.go:231", after := #[{ on := 34, ground := Ground.data }, { on := 32, ground := Ground.guard }], guard := some (32, true) }, { dst := some 88, op := Op.binOp BinOp.eql 3 (Operand.tmp 87) (Operand.const (Value.int IntKind.i64 1)) 3, type := 4, pos := "law.go:231", after := #[{ on := 35, ground := Ground.data }, { on := 32, ground := Ground.guard }], guard := some (32, true) }, { dst := some 89, op := Op.pick (Operand.tmp 84) (Operand.tmp 88) (Operand.const (Value.bool false)), type := 4, pos := "law.go:231", after := #[{ on := 32, ground := Ground.data }, { on := 36, ground := Ground.data }], guard := none }, { dst := some 90, op := Op.move (Operand.tmp 89), type := 4, pos := "law.go:231", after := #[{ on := 37, ground := Ground.data }, { on := 34, ground := Ground.chain }], guard := none }, { dst := some 91, op := Op.load 30 (Operand.tmp 10), type := 30, pos := "law.go:231", after := #[{ on := 38, ground := Ground.guard }], guard := some (38, true) }, { dst := some 92, op := Op.load 30 (Operand.tmp 11), type := 30, pos := "law.go:231", after := #[{ on := 38, ground := Ground.guard }], guard := some (38, true) }, { dst := some 93, op := Op.call { callee := Callee.value (Operand.func 36), args := #[Operand.tmp 91, Operand.tmp 92], argTypes := #[30, 30] }, type := 3, pos := "law.go:231", after := #[{ on := 39, ground := Ground.data }, { on := 40, ground := Ground.data }, { on := 38, ground := Ground.chain }, { on := 38, ground := Ground.guard }], guard := some (38, true) }, { dst := some 94, op := Op.binOp BinOp.eql 3 (Operand.tmp 93) (Operand.const (Value.int IntKind.i64 0)) 3, type := 4, pos := "law.go:231", after := #[{ on := 41, ground := Ground.data }, { on := 38, ground := Ground.guard }], guard := some (38, true) }, { dst := some 95, op := Op.move (Operand.tmp 9), type := 4, pos := "law.go:231", after := #[{ on := 38, ground := Ground.guard }], guard := some (38, true) }, { dst := some 96, op := Op.binOp BinOp.eql 4 (Operand.tmp 94) (Operand.tmp 95) 4, type := 4, pos := "law.go:231", after := #[{ on := 42, ground := Ground.data }, { on := 43, ground := Ground.data }, { on := 38, ground := Ground.guard }], guard := some (38, true) }, { dst := some 97, op := Op.pick (Operand.tmp 90) (Operand.tmp 96) (Operand.const (Value.bool false)), type := 4, pos := "law.go:231", after := #[{ on := 38, ground := Ground.data }, { on := 44, ground := Ground.data }], guard := none }, { dst := some 98, op := Op.move (Operand.tmp 97), type := 4, pos := "law.go:231", after := #[{ on := 45, ground := Ground.data }, { on := 41, ground := Ground.chain }], guard := none }, { dst := some 99, op := Op.load 30 (Operand.tmp 10), type := 30, pos := "law.go:231", after := #[{ on := 46, ground := Ground.guard }], guard := some (46, true) }, { dst := some 100, op := Op.move (Operand.tmp 2), type := 5, pos := "law.go:231", after := #[{ on := 46, ground := Ground.guard }], guard := some (46, true) }, { dst := some 101, op := Op.convert 5 3 (Operand.tmp 100), type := 3, pos := "law.go:231", after := #[{ on := 48, ground := Ground.data }, { on := 46, ground := Ground.guard }], guard := some (46, true) }, { dst := some 102, op := Op.load 30 (Operand.tmp 7), type := 30, pos := "law.go:231", after := #[{ on := 46, ground := Ground.guard }], guard := some (46, true) }, { dst := some 103, op := Op.buildSlice 28 1 #[(0, Operand.tmp 102)], type := 28, pos := "law.go:231", after := #[{ on := 50, ground := Ground.data }, { on := 46, ground := Ground.guard }], guard := some (46, true) }, { dst := some 104, op := Op.build 30 #[(0, Operand.tmp 101), (1, Operand.tmp 103)], type := 30, pos := "law.go:231", after := #[{ on := 49, ground := Ground.data }, { on := 51, ground := Ground.data }, { on := 46, ground := Ground.guard }], guard := some (46, true) }, { dst := some 105, op := Op.call { callee := Callee.value (Operand.func 37), args := #[Operand.tmp 99, Operand.tmp 104], argTypes := #[30, 30] }, type := 4, pos := "law.go:231", after := #[{ on := 47, ground := Ground.data }, { on := 52, ground := Ground.data }, { on := 46, ground := Ground.chain }, { on := 46, ground := Ground.guard }], guard := some (46, true) }, { dst := some 106, op := Op.unOp UnOp.not 4 (Operand.tmp 105), type := 4, pos := "law.go:231", after := #[{ on := 53, ground := Ground.data }, { on := 46, ground := Ground.guard }], guard := some (46, true) }, { dst := some 107, op := Op.pick (Operand.tmp 98) (Operand.tmp 106) (Operand.const (Value.bool false)), type := 4, pos := "law.go:231", after := #[{ on := 46, ground := Ground.data }, { on := 54, ground := Ground.data }], guard := none }, { dst := some 6, op := Op.assign (Operand.tmp 107), type := 4, pos := "law.go:231", after := #[{ on := 55, ground := Ground.data }, { on := 53, ground := Ground.chain }, { on := 0, ground := Ground.phase }, { on := 1, ground := Ground.phase }, { on := 2, ground := Ground.phase }, { on := 3, ground := Ground.phase }, { on := 4, ground := Ground.phase }, { on := 5, ground := Ground.phase }, { on := 6, ground := Ground.phase }, { on := 7, ground := Ground.phase }, { on := 8, ground := Ground.phase }, { on := 9, ground := Ground.phase }, { on := 10, ground := Ground.phase }, { on := 11, ground := Ground.phase }, { on := 12, ground := Ground.phase }, { on := 13, ground := Ground.phase }, { on := 14, ground := Ground.phase }, { on := 15, ground := Ground.phase }, { on := 16, ground := Ground.phase }, { on := 17, ground := Ground.phase }, { on := 18, ground := Ground.phase }, { on := 19, ground := Ground.phase }, { on := 20, ground := Ground.phase }, { on := 21, ground := Ground.phase }, { on := 22, ground := Ground.phase }, { on := 23, ground := Ground.phase }, { on := 24, ground := Ground.phase }, { on := 25, ground := Ground.phase }, { on := 26, ground := Ground.phase }, { on := 27, ground := Ground.phase }, { on := 28, ground := Ground.phase }, { on := 29, ground := Ground.phase }, { on := 30, ground := Ground.phase }, { on := 31, ground := Ground.phase }, { on := 32, ground := Ground.phase }, { on := 33, ground := Ground.phase }, { on := 34, ground := Ground.phase }, { on := 35, ground := Ground.phase }, { on := 36, ground := Ground.phase }, { on := 37, ground := Ground.phase }, { on := 38, ground := Ground.phase }, { on := 39, ground := Ground.phase }, { on := 40, ground := Ground.phase }, { on := 41, ground := Ground.phase }, { on := 42, ground := Ground.phase }, { on := 43, ground := Ground.phase }, { on := 44, ground := Ground.phase }, { on := 45, ground := Ground.phase }, { on := 46, ground := Ground.phase }, { on := 47, ground := Ground.phase }, { on := 48, ground := Ground.phase }, { on := 49, ground := Ground.phase }, { on := 50, ground := Ground.phase }, { on := 51, ground := Ground.phase }, { on := 52, ground := Ground.phase }, { on := 53, ground := Ground.phase }, { on := 54, ground := Ground.phase }, { on := 55, ground := Ground.phase }], guard := none }] true).wp Try.prog Q a w := by
  have hmx : Try.prog.follows .mixedOrders = true := by kernel_rfl
  refine region_detR 57 hmx hr (by kernel_rfl) ?_
  refine DetR.is (o := { dst := some 52, op := Op.load 30 (Operand.tmp 10), type := 30, pos := "law.go:231", after := #[], guard := none }) (u := ?ux17) rfl (by decide) (fun T w' hb hd hB K hK => ?sx17) ?rx17
  case sx17 =>
    have e10 := (hB 10 (by kernel_rfl)).trans hT10
    have q10_0 : w'.cell? ⟨gp, 0, none⟩ = some (.int .i64 f) := (blk_cell (blk_below hX10 hb) 0).trans rfl
    have q10_1 : w'.cell? ⟨gp, 1, none⟩ = some (.slice (some ⟨gs, 0, none⟩) 2 2) := (blk_cell (blk_below hX10 hb) 1).trans rfl
    rw [if_pos (wanted_none _ rfl)]
    clear hd hB
    go_simp
    exact hK _ (Below.refl _ _)
  refine DetR.is (o := { dst := some 53, op := Op.load 30 (Operand.tmp 11), type := 30, pos := "law.go:231", after := #[], guard := none }) (u := ?ux18) rfl (by decide) (fun T w' hb hd hB K hK => ?sx18) ?rx18
  case sx18 =>
    have e11 := (hB 11 (by kernel_rfl)).trans hT11
    have q11_0 : w'.cell? ⟨gq, 0, none⟩ = some (.int .i64 f) := (blk_cell (blk_below hX11 hb) 0).trans rfl
    have q11_1 : w'.cell? ⟨gq, 1, none⟩ = some (ql) := (blk_cell (blk_below hX11 hb) 1).trans rfl
    rw [if_pos (wanted_none _ rfl)]
    clear hd hB
    go_simp
    exact hK _ (Below.refl _ _)
  refine DetR.is (o := { dst := some 54, op := Op.call { callee := Callee.value (Operand.func 37), args := #[Operand.tmp 52, Operand.tmp 53], argTypes := #[30, 30] }, type := 4, pos := "law.go:231", after := #[{ on := 0, ground := Ground.data }, { on := 1, ground := Ground.data }], guard := none }) (u := ?ux19) rfl (by decide) (fun T w' hb hd hB K hK => ?sx19) ?rx19
  case sx19 =>
    have e52 := hd 0 52 _ (by decide) (by kernel_rfl) rfl rfl
    replace e52 : T.getD 52 undef = _ := e52
    have e53 := hd 1 53 _ (by decide) (by kernel_rfl) rfl rfl
    replace e53 : T.getD 53 undef = _ := e53
    rw [if_pos (wanted_none _ rfl)]
    have hcl := hF2 w' hb
    clear hd hB
    go_simp
    go_at_call 37
    refine hcl.mono ?_
    rintro e w2 ⟨rfl, h2⟩
    exact hK _ h2
  refine DetR.is (o := { dst := some 55, op := Op.move (Operand.tmp 9), type := 4, pos := "law.go:231", after := #[], guard := none }) (u := ?ux20) rfl (by decide) (fun T w' hb hd hB K hK => ?sx20) ?rx20
  case sx20 =>
    have e9 := (hB 9 (by kernel_rfl)).trans hT9
    rw [if_pos (wanted_none _ rfl)]
    clear hd hB
    go_simp
    exact hK _ (Below.refl _ _)
  refine DetR.is (o := { dst := some 56, op := Op.binOp BinOp.eql 4 (Operand.tmp 54) (Operand.tmp 55) 4, type := 4, pos := "law.go:231", after := #[{ on := 2, ground := Ground.data }, { on := 3, ground := Ground.data }], guard := none }) (u := .bool true) rfl (by decide) (fun T w' hb hd hB K hK => ?sx21) ?rx21
  case sx21 =>
    have e54 := hd 2 54 _ (by decide) (by kernel_rfl) rfl rfl
    replace e54 : T.getD 54 undef = _ := e54
    have e55 := hd 3 55 _ (by decide) (by kernel_rfl) rfl rfl
    replace e55 : T.getD 55 undef = _ := e55
    rw [if_pos (wanted_none _ rfl)]
    clear hd hB
    go_simp
    try simp only [beq_self_eq_true]
    exact hK _ (Below.refl _ _)
  refine DetR.is (o := { dst := some 57, op := Op.move (Operand.tmp 56), type := 4, pos := "law.go:231", after := #[{ on := 4, ground := Ground.data }, { on := 2, ground := Ground.chain }], guard := none }) (u := .bool true) rfl (by decide) (fun T w' hb hd hB K hK => ?sx22) ?rx22
  case sx22 =>
    have e56 := hd 4 56 _ (by decide) (by kernel_rfl) rfl rfl
    replace e56 : T.getD 56 undef = _ := e56
    rw [if_pos (wanted_none _ rfl)]
    clear hd hB
    go_simp
    exact hK _ (Below.refl _ _)
  refine DetR.is (o := { dst := some 58, op := Op.load 30 (Operand.tmp 7), type := 30, pos := "law.go:231", after := #[{ on := 5, ground := Ground.guard }], guard := some (5, true) }) (u := ?ux23) rfl (by decide) (fun T w' hb hd hB K hK => ?sx23) ?rx23
  case sx23 =>
    have e7 := (hB 7 (by kernel_rfl)).trans hT7
    have q7_0 : w'.cell? ⟨ga, 0, none⟩ = some (xf) := (blk_cell (blk_below hX7 hb) 0).trans rfl
    have q7_1 : w'.cell? ⟨ga, 1, none⟩ = some (xl) := (blk_cell (blk_below hX7 hb) 1).trans rfl
    have eg := hd 5 57 _ (by decide) (by kernel_rfl) rfl rfl
    replace eg : T.getD 57 undef = .bool true := eg
    rw [if_pos (wanted_yes 5 57 true rfl rfl eg)]
    clear eg
    clear hd hB
    go_simp
    exact hK _ (Below.refl _ _)
  refine DetR.is (o := { dst := some 59, op := Op.fieldAddr 30 (Operand.tmp 10) 1, type := 0, pos := "law.go:231", after := #[{ on := 5, ground := Ground.guard }], guard := some (5, true) }) (u := ?ux24) rfl (by decide) (fun T w' hb hd hB K hK => ?sx24) ?rx24
  case sx24 =>
    have e10 := (hB 10 (by kernel_rfl)).trans hT10
    have q10_0 : w'.cell? ⟨gp, 0, none⟩ = some (.int .i64 f) := (blk_cell (blk_below hX10 hb) 0).trans rfl
    have q10_1 : w'.cell? ⟨gp, 1, none⟩ = some (.slice (some ⟨gs, 0, none⟩) 2 2) := (blk_cell (blk_below hX10 hb) 1).trans rfl
    have eg := hd 5 57 _ (by decide) (by kernel_rfl) rfl rfl
    replace eg : T.getD 57 undef = .bool true := eg
    rw [if_pos (wanted_yes 5 57 true rfl rfl eg)]
    clear eg
    clear hd hB
    go_simp
    exact hK _ (Below.refl _ _)
  refine DetR.is (o := { dst := some 60, op := Op.load 28 (Operand.tmp 59), type := 28, pos := "law.go:231", after := #[{ on := 7, ground := Ground.data }, { on := 5, ground := Ground.guard }], guard := some (5, true) }) (u := ?ux25) rfl (by decide) (fun T w' hb hd hB K hK => ?sx25) ?rx25
  case sx25 =>
    have e59 := hd 7 59 _ (by decide) (by kernel_rfl) rfl rfl
    replace e59 : T.getD 59 undef = _ := e59
    have eg := hd 5 57 _ (by decide) (by kernel_rfl) rfl rfl
    replace eg : T.getD 57 undef = .bool true := eg
    rw [if_pos (wanted_yes 5 57 true rfl rfl eg)]
    clear eg
    have r1 : w'.cell? ⟨gp, 1, none⟩ = some (.slice (some ⟨gs, 0, none⟩) 2 2) := (blk_cell (blk_below hX10 hb) 1).trans rfl
    clear hd hB
    go_simp
    exact hK _ (Below.refl _ _)
  refine DetR.is (o := { dst := some 61, op := Op.indexAddr 28 (Operand.tmp 60) (Operand.const (Value.int IntKind.i64 0)), type := 0, pos := "law.go:231", after := #[{ on := 8, ground := Ground.data }, { on := 5, ground := Ground.guard }], guard := some (5, true) }) (u := .pointer (some ⟨gs, 0, none⟩)) rfl (by decide) (fun T w' hb hd hB K hK => ?sx26) ?rx26
  case sx26 =>
    have e60 := hd 8 60 _ (by decide) (by kernel_rfl) rfl rfl
    replace e60 : T.getD 60 undef = _ := e60
    have eg := hd 5 57 _ (by decide) (by kernel_rfl) rfl rfl
    replace eg : T.getD 57 undef = .bool true := eg
    rw [if_pos (wanted_yes 5 57 true rfl rfl eg)]
    clear eg
    have r0 : w'.cell? ⟨gs, 0, none⟩ = some xf := (blk_cell (blk_below hXs hb) 0).trans rfl
    have r1 : w'.cell? ⟨gs, 1, none⟩ = some xl := (blk_cell (blk_below hXs hb) 1).trans rfl
    clear hd hB
    go_simp
    exact hK _ (Below.refl _ _)
  refine DetR.is (o := { dst := some 62, op := Op.load 30 (Operand.tmp 61), type := 30, pos := "law.go:231", after := #[{ on := 9, ground := Ground.data }, { on := 5, ground := Ground.guard }], guard := some (5, true) }) (u := .agg #[xf, xl]) rfl (by decide) (fun T w' hb hd hB K hK => ?sx27) ?rx27
  case sx27 =>
    have e61 := hd 9 61 _ (by decide) (by kernel_rfl) rfl rfl
    replace e61 : T.getD 61 undef = _ := e61
    have eg := hd 5 57 _ (by decide) (by kernel_rfl) rfl rfl
    replace eg : T.getD 57 undef = .bool true := eg
    rw [if_pos (wanted_yes 5 57 true rfl rfl eg)]
    clear eg
    have r0 : w'.cell? ⟨gs, 0, none⟩ = some xf := (blk_cell (blk_below hXs hb) 0).trans rfl
    have r1 : w'.cell? ⟨gs, 1, none⟩ = some xl := (blk_cell (blk_below hXs hb) 1).trans rfl
    clear hd hB
    go_simp
    exact hK _ (Below.refl _ _)
  refine DetR.is (o := { dst := some 63, op := Op.call { callee := Callee.value (Operand.func 37), args := #[Operand.tmp 58, Operand.tmp 62], argTypes := #[30, 30] }, type := 4, pos := "law.go:231", after := #[{ on := 6, ground := Ground.data }, { on := 10, ground := Ground.data }, { on := 5, ground := Ground.chain }, { on := 5, ground := Ground.guard }], guard := some (5, true) }) (u := ?ux28) rfl (by decide) (fun T w' hb hd hB K hK => ?sx28) ?rx28
  case sx28 =>
    have e58 := hd 6 58 _ (by decide) (by kernel_rfl) rfl rfl
    replace e58 : T.getD 58 undef = _ := e58
    have e62 := hd 10 62 _ (by decide) (by kernel_rfl) rfl rfl
    replace e62 : T.getD 62 undef = _ := e62
    have eg := hd 5 57 _ (by decide) (by kernel_rfl) rfl rfl
    replace eg : T.getD 57 undef = .bool true := eg
    rw [if_pos (wanted_yes 5 57 true rfl rfl eg)]
    clear eg
    have hcl := hF11 w' hb
    clear hd hB
    go_simp
    go_at_call 37
    refine hcl.mono ?_
    rintro e w2 ⟨rfl, h2⟩
    exact hK _ h2
  refine DetR.is (o := { dst := some 64, op := Op.pick (Operand.tmp 57) (Operand.tmp 63) (Operand.const (Value.bool false)), type := 4, pos := "law.go:231", after := #[{ on := 5, ground := Ground.data }, { on := 11, ground := Ground.data }], guard := none }) (u := ?ux29) rfl (by decide) (fun T w' hb hd hB K hK => ?sx29) ?rx29
  case sx29 =>
    have e57 := hd 5 57 _ (by decide) (by kernel_rfl) rfl rfl
    replace e57 : T.getD 57 undef = _ := e57
    have e63 := hd 11 63 _ (by decide) (by kernel_rfl) rfl rfl
    replace e63 : T.getD 63 undef = _ := e63
    rw [if_pos (wanted_none _ rfl)]
    clear hd hB
    go_simp
    exact hK _ (Below.refl _ _)
  refine DetR.is (o := { dst := some 65, op := Op.move (Operand.tmp 64), type := 4, pos := "law.go:231", after := #[{ on := 12, ground := Ground.data }, { on := 11, ground := Ground.chain }], guard := none }) (u := .bool true) rfl (by decide) (fun T w' hb hd hB K hK => ?sx30) ?rx30
  case sx30 =>
    have e64 := hd 12 64 _ (by decide) (by kernel_rfl) rfl rfl
    replace e64 : T.getD 64 undef = _ := e64
    rw [if_pos (wanted_none _ rfl)]
    clear hd hB
    go_simp
    exact hK _ (Below.refl _ _)
  refine DetR.is (o := { dst := some 66, op := Op.load 30 (Operand.tmp 12), type := 30, pos := "law.go:231", after := #[{ on := 13, ground := Ground.guard }], guard := some (13, true) }) (u := ?ux31) rfl (by decide) (fun T w' hb hd hB K hK => ?sx31) ?rx31
  case sx31 =>
    have e12 := (hB 12 (by kernel_rfl)).trans hT12
    have q12_0 : w'.cell? ⟨gc, 0, none⟩ = some (cf) := (blk_cell (blk_below hX12 hb) 0).trans rfl
    have q12_1 : w'.cell? ⟨gc, 1, none⟩ = some (cl) := (blk_cell (blk_below hX12 hb) 1).trans rfl
    have eg := hd 13 65 _ (by decide) (by kernel_rfl) rfl rfl
    replace eg : T.getD 65 undef = .bool true := eg
    rw [if_pos (wanted_yes 13 65 true rfl rfl eg)]
    clear eg
    clear hd hB
    go_simp
    exact hK _ (Below.refl _ _)
  refine DetR.is (o := { dst := some 67, op := Op.load 30 (Operand.tmp 10), type := 30, pos := "law.go:231", after := #[{ on := 13, ground := Ground.guard }], guard := some (13, true) }) (u := ?ux32) rfl (by decide) (fun T w' hb hd hB K hK => ?sx32) ?rx32
  case sx32 =>
    have e10 := (hB 10 (by kernel_rfl)).trans hT10
    have q10_0 : w'.cell? ⟨gp, 0, none⟩ = some (.int .i64 f) := (blk_cell (blk_below hX10 hb) 0).trans rfl
    have q10_1 : w'.cell? ⟨gp, 1, none⟩ = some (.slice (some ⟨gs, 0, none⟩) 2 2) := (blk_cell (blk_below hX10 hb) 1).trans rfl
    have eg := hd 13 65 _ (by decide) (by kernel_rfl) rfl rfl
    replace eg : T.getD 65 undef = .bool true := eg
    rw [if_pos (wanted_yes 13 65 true rfl rfl eg)]
    clear eg
    clear hd hB
    go_simp
    exact hK _ (Below.refl _ _)
  refine DetR.is (o := { dst := some 68, op := Op.call { callee := Callee.value (Operand.func 37), args := #[Operand.tmp 66, Operand.tmp 67], argTypes := #[30, 30] }, type := 4, pos := "law.go:231", after := #[{ on := 14, ground := Ground.data }, { on := 15, ground := Ground.data }, { on := 13, ground := Ground.chain }, { on := 13, ground := Ground.guard }], guard := some (13, true) }) (u := ?ux33) rfl (by decide) (fun T w' hb hd hB K hK => ?sx33) ?rx33
  case sx33 =>
    have e66 := hd 14 66 _ (by decide) (by kernel_rfl) rfl rfl
    replace e66 : T.getD 66 undef = _ := e66
    have e67 := hd 15 67 _ (by decide) (by kernel_rfl) rfl rfl
    replace e67 : T.getD 67 undef = _ := e67
    have eg := hd 13 65 _ (by decide) (by kernel_rfl) rfl rfl
    replace eg : T.getD 65 undef = .bool true := eg
    rw [if_pos (wanted_yes 13 65 true rfl rfl eg)]
    clear eg
    have hcl := hF16 w' hb
    clear hd hB
    go_simp
    go_at_call 37
    refine hcl.mono ?_
    rintro e w2 ⟨rfl, h2⟩
    exact hK _ h2
  refine DetR.is (o := { dst := some 69, op := Op.unOp UnOp.not 4 (Operand.tmp 68), type := 4, pos := "law.go:231", after := #[{ on := 16, ground := Ground.data }, { on := 13, ground := Ground.guard }], guard := some (13, true) }) (u := .bool (!s2)) rfl (by decide) (fun T w' hb hd hB K hK => ?sx34) ?rx34
  case sx34 =>
    have e68 := hd 16 68 _ (by decide) (by kernel_rfl) rfl rfl
    replace e68 : T.getD 68 undef = _ := e68
    have eg := hd 13 65 _ (by decide) (by kernel_rfl) rfl rfl
    replace eg : T.getD 65 undef = .bool true := eg
    rw [if_pos (wanted_yes 13 65 true rfl rfl eg)]
    clear eg
    clear hd hB
    go_simp
    exact hK _ (Below.refl _ _)
  refine DetR.is (o := { dst := some 70, op := Op.load 30 (Operand.tmp 7), type := 30, pos := "law.go:231", after := #[{ on := 13, ground := Ground.guard }], guard := some (13, true) }) (u := ?ux35) rfl (by decide) (fun T w' hb hd hB K hK => ?sx35) ?rx35
  case sx35 =>
    have e7 := (hB 7 (by kernel_rfl)).trans hT7
    have q7_0 : w'.cell? ⟨ga, 0, none⟩ = some (xf) := (blk_cell (blk_below hX7 hb) 0).trans rfl
    have q7_1 : w'.cell? ⟨ga, 1, none⟩ = some (xl) := (blk_cell (blk_below hX7 hb) 1).trans rfl
    have eg := hd 13 65 _ (by decide) (by kernel_rfl) rfl rfl
    replace eg : T.getD 65 undef = .bool true := eg
    rw [if_pos (wanted_yes 13 65 true rfl rfl eg)]
    clear eg
    clear hd hB
    go_simp
    exact hK _ (Below.refl _ _)
  refine DetR.is (o := { dst := some 71, op := Op.build 30 #[(0, Operand.const (Value.int IntKind.i64 999))], type := 30, pos := "law.go:231", after := #[{ on := 13, ground := Ground.guard }], guard := some (13, true) }) (u := ?ux36) rfl (by decide) (fun T w' hb hd hB K hK => ?sx36) ?rx36
  case sx36 =>
    have eg := hd 13 65 _ (by decide) (by kernel_rfl) rfl rfl
    replace eg : T.getD 65 undef = .bool true := eg
    rw [if_pos (wanted_yes 13 65 true rfl rfl eg)]
    clear eg
    clear hd hB
    go_simp
    exact hK _ (Below.refl _ _)
  refine DetR.is (o := { dst := some 72, op := Op.call { callee := Callee.value (Operand.func 37), args := #[Operand.tmp 70, Operand.tmp 71], argTypes := #[30, 30] }, type := 4, pos := "law.go:231", after := #[{ on := 18, ground := Ground.data }, { on := 19, ground := Ground.data }, { on := 16, ground := Ground.chain }, { on := 13, ground := Ground.guard }], guard := some (13, true) }) (u := ?ux37) rfl (by decide) (fun T w' hb hd hB K hK => ?sx37) ?rx37
  case sx37 =>
    have e70 := hd 18 70 _ (by decide) (by kernel_rfl) rfl rfl
    replace e70 : T.getD 70 undef = _ := e70
    have e71 := hd 19 71 _ (by decide) (by kernel_rfl) rfl rfl
    replace e71 : T.getD 71 undef = _ := e71
    have eg := hd 13 65 _ (by decide) (by kernel_rfl) rfl rfl
    replace eg : T.getD 65 undef = .bool true := eg
    rw [if_pos (wanted_yes 13 65 true rfl rfl eg)]
    clear eg
    have hcl := hF20 w' hb
    clear hd hB
    go_simp
    go_at_call 37
    refine hcl.mono ?_
    rintro e w2 ⟨rfl, h2⟩
    exact hK _ h2
  refine DetR.is (o := { dst := some 73, op := Op.unOp UnOp.not 4 (Operand.tmp 72), type := 4, pos := "law.go:231", after := #[{ on := 20, ground := Ground.data }, { on := 13, ground := Ground.guard }], guard := some (13, true) }) (u := .bool (!s2)) rfl (by decide) (fun T w' hb hd hB K hK => ?sx38) ?rx38
  case sx38 =>
    have e72 := hd 20 72 _ (by decide) (by kernel_rfl) rfl rfl
    replace e72 : T.getD 72 undef = _ := e72
    have eg := hd 13 65 _ (by decide) (by kernel_rfl) rfl rfl
    replace eg : T.getD 65 undef = .bool true := eg
    rw [if_pos (wanted_yes 13 65 true rfl rfl eg)]
    clear eg
    clear hd hB
    go_simp
    exact hK _ (Below.refl _ _)
  refine DetR.is (o := { dst := some 74, op := Op.binOp BinOp.eql 4 (Operand.tmp 69) (Operand.tmp 73) 4, type := 4, pos := "law.go:231", after := #[{ on := 17, ground := Ground.data }, { on := 21, ground := Ground.data }, { on := 13, ground := Ground.guard }], guard := some (13, true) }) (u := .bool true) rfl (by decide) (fun T w' hb hd hB K hK => ?sx39) ?rx39
  case sx39 =>
    have e69 := hd 17 69 _ (by decide) (by kernel_rfl) rfl rfl
    replace e69 : T.getD 69 undef = _ := e69
    have e73 := hd 21 73 _ (by decide) (by kernel_rfl) rfl rfl
    replace e73 : T.getD 73 undef = _ := e73
    have eg := hd 13 65 _ (by decide) (by kernel_rfl) rfl rfl
    replace eg : T.getD 65 undef = .bool true := eg
    rw [if_pos (wanted_yes 13 65 true rfl rfl eg)]
    clear eg
    clear hd hB
    go_simp
    try simp only [beq_self_eq_true]
    exact hK _ (Below.refl _ _)
  refine DetR.is (o := { dst := some 75, op := Op.pick (Operand.tmp 65) (Operand.tmp 74) (Operand.const (Value.bool false)), type := 4, pos := "law.go:231", after := #[{ on := 13, ground := Ground.data }, { on := 22, ground := Ground.data }], guard := none }) (u := ?ux40) rfl (by decide) (fun T w' hb hd hB K hK => ?sx40) ?rx40
  case sx40 =>
    have e65 := hd 13 65 _ (by decide) (by kernel_rfl) rfl rfl
    replace e65 : T.getD 65 undef = _ := e65
    have e74 := hd 22 74 _ (by decide) (by kernel_rfl) rfl rfl
    replace e74 : T.getD 74 undef = _ := e74
    rw [if_pos (wanted_none _ rfl)]
    clear hd hB
    go_simp
    exact hK _ (Below.refl _ _)
  refine DetR.is (o := { dst := some 76, op := Op.move (Operand.tmp 75), type := 4, pos := "law.go:231", after := #[{ on := 23, ground := Ground.data }, { on := 20, ground := Ground.chain }], guard := none }) (u := .bool true) rfl (by decide) (fun T w' hb hd hB K hK => ?sx41) ?rx41
  case sx41 =>
    have e75 := hd 23 75 _ (by decide) (by kernel_rfl) rfl rfl
    replace e75 : T.getD 75 undef = _ := e75
    rw [if_pos (wanted_none _ rfl)]
    clear hd hB
    go_simp
    exact hK _ (Below.refl _ _)
  refine DetR.is (o := { dst := some 77, op := Op.load 30 (Operand.tmp 13), type := 30, pos := "law.go:231", after := #[{ on := 24, ground := Ground.guard }], guard := some (24, true) }) (u := ?ux42) rfl (by decide) (fun T w' hb hd hB K hK => ?sx42) ?rx42
  case sx42 =>
    have e13 := (hB 13 (by kernel_rfl)).trans hT13
    have q13_0 : w'.cell? ⟨gv, 0, none⟩ = some (vf) := (blk_cell (blk_below hX13 hb) 0).trans rfl
    have q13_1 : w'.cell? ⟨gv, 1, none⟩ = some (vl) := (blk_cell (blk_below hX13 hb) 1).trans rfl
    have eg := hd 24 76 _ (by decide) (by kernel_rfl) rfl rfl
    replace eg : T.getD 76 undef = .bool true := eg
    rw [if_pos (wanted_yes 24 76 true rfl rfl eg)]
    clear eg
    clear hd hB
    go_simp
    exact hK _ (Below.refl _ _)
  refine DetR.is (o := { dst := some 78, op := Op.move (Operand.tmp 2), type := 5, pos := "law.go:231", after := #[{ on := 24, ground := Ground.guard }], guard := some (24, true) }) (u := ?ux43) rfl (by decide) (fun T w' hb hd hB K hK => ?sx43) ?rx43
  case sx43 =>
    have e2 := (hB 2 (by kernel_rfl)).trans hT2
    have eg := hd 24 76 _ (by decide) (by kernel_rfl) rfl rfl
    replace eg : T.getD 76 undef = .bool true := eg
    rw [if_pos (wanted_yes 24 76 true rfl rfl eg)]
    clear eg
    clear hd hB
    go_simp
    exact hK _ (Below.refl _ _)
  refine DetR.is (o := { dst := some 79, op := Op.convert 5 3 (Operand.tmp 78), type := 3, pos := "law.go:231", after := #[{ on := 26, ground := Ground.data }, { on := 24, ground := Ground.guard }], guard := some (24, true) }) (u := .int .i64 f) rfl (by decide) (fun T w' hb hd hB K hK => ?sx44) ?rx44
  case sx44 =>
    have e78 := hd 26 78 _ (by decide) (by kernel_rfl) rfl rfl
    replace e78 : T.getD 78 undef = _ := e78
    have eg := hd 24 76 _ (by decide) (by kernel_rfl) rfl rfl
    replace eg : T.getD 76 undef = .bool true := eg
    rw [if_pos (wanted_yes 24 76 true rfl rfl eg)]
    clear eg
    clear hd hB
    go_simp
    rw [show IntKind.i64.wrap f = f from by rw [i64_w]; unfold wrap64; omega]
    exact hK _ (Below.refl _ _)
  refine DetR.is (o := { dst := some 80, op := Op.binOp BinOp.sub 3 (Operand.const (Value.int IntKind.i64 (-1))) (Operand.tmp 79) 3, type := 3, pos := "law.go:231", after := #[{ on := 27, ground := Ground.data }, { on := 24, ground := Ground.guard }], guard := some (24, true) }) (u := .int .i64 (-1 - f)) rfl (by decide) (fun T w' hb hd hB K hK => ?sx45) ?rx45
  case sx45 =>
    have e79 := hd 27 79 _ (by decide) (by kernel_rfl) rfl rfl
    replace e79 : T.getD 79 undef = _ := e79
    have eg := hd 24 76 _ (by decide) (by kernel_rfl) rfl rfl
    replace eg : T.getD 76 undef = .bool true := eg
    rw [if_pos (wanted_yes 24 76 true rfl rfl eg)]
    clear eg
    clear hd hB
    go_simp
    rw [show IntKind.i64.wrap (-1 - f) = -1 - f from by rw [i64_w]; unfold wrap64; omega]
    exact hK _ (Below.refl _ _)
  refine DetR.is (o := { dst := some 81, op := Op.build 30 #[(0, Operand.tmp 80)], type := 30, pos := "law.go:231", after := #[{ on := 28, ground := Ground.data }, { on := 24, ground := Ground.guard }], guard := some (24, true) }) (u := ?ux46) rfl (by decide) (fun T w' hb hd hB K hK => ?sx46) ?rx46
  case sx46 =>
    have e80 := hd 28 80 _ (by decide) (by kernel_rfl) rfl rfl
    replace e80 : T.getD 80 undef = _ := e80
    have z80 : T[80]?.getD undef = _ := Array.getD_eq_getD_getElem?.symm.trans e80
    have eg := hd 24 76 _ (by decide) (by kernel_rfl) rfl rfl
    replace eg : T.getD 76 undef = .bool true := eg
    rw [if_pos (wanted_yes 24 76 true rfl rfl eg)]
    clear eg
    clear hd hB
    go_simp
    exact hK _ (Below.refl _ _)
  refine DetR.is (o := { dst := some 82, op := Op.call { callee := Callee.value (Operand.func 37), args := #[Operand.tmp 77, Operand.tmp 81], argTypes := #[30, 30] }, type := 4, pos := "law.go:231", after := #[{ on := 25, ground := Ground.data }, { on := 29, ground := Ground.data }, { on := 24, ground := Ground.chain }, { on := 24, ground := Ground.guard }], guard := some (24, true) }) (u := ?ux47) rfl (by decide) (fun T w' hb hd hB K hK => ?sx47) ?rx47
  case sx47 =>
    have e77 := hd 25 77 _ (by decide) (by kernel_rfl) rfl rfl
    replace e77 : T.getD 77 undef = _ := e77
    have e81 := hd 29 81 _ (by decide) (by kernel_rfl) rfl rfl
    replace e81 : T.getD 81 undef = _ := e81
    have eg := hd 24 76 _ (by decide) (by kernel_rfl) rfl rfl
    replace eg : T.getD 76 undef = .bool true := eg
    rw [if_pos (wanted_yes 24 76 true rfl rfl eg)]
    clear eg
    have hcl := hF30 w' hb
    clear hd hB
    go_simp
    go_at_call 37
    refine hcl.mono ?_
    rintro e w2 ⟨rfl, h2⟩
    exact hK _ h2
  refine DetR.is (o := { dst := some 83, op := Op.pick (Operand.tmp 76) (Operand.tmp 82) (Operand.const (Value.bool false)), type := 4, pos := "law.go:231", after := #[{ on := 24, ground := Ground.data }, { on := 30, ground := Ground.data }], guard := none }) (u := ?ux48) rfl (by decide) (fun T w' hb hd hB K hK => ?sx48) ?rx48
  case sx48 =>
    have e76 := hd 24 76 _ (by decide) (by kernel_rfl) rfl rfl
    replace e76 : T.getD 76 undef = _ := e76
    have e82 := hd 30 82 _ (by decide) (by kernel_rfl) rfl rfl
    replace e82 : T.getD 82 undef = _ := e82
    rw [if_pos (wanted_none _ rfl)]
    clear hd hB
    go_simp
    exact hK _ (Below.refl _ _)
  refine DetR.is (o := { dst := some 84, op := Op.move (Operand.tmp 83), type := 4, pos := "law.go:231", after := #[{ on := 31, ground := Ground.data }, { on := 30, ground := Ground.chain }], guard := none }) (u := .bool true) rfl (by decide) (fun T w' hb hd hB K hK => ?sx49) ?rx49
  case sx49 =>
    have e83 := hd 31 83 _ (by decide) (by kernel_rfl) rfl rfl
    replace e83 : T.getD 83 undef = _ := e83
    rw [if_pos (wanted_none _ rfl)]
    clear hd hB
    go_simp
    exact hK _ (Below.refl _ _)
  refine DetR.is (o := { dst := some 85, op := Op.load 30 (Operand.tmp 13), type := 30, pos := "law.go:231", after := #[{ on := 32, ground := Ground.guard }], guard := some (32, true) }) (u := ?ux50) rfl (by decide) (fun T w' hb hd hB K hK => ?sx50) ?rx50
  case sx50 =>
    have e13 := (hB 13 (by kernel_rfl)).trans hT13
    have q13_0 : w'.cell? ⟨gv, 0, none⟩ = some (vf) := (blk_cell (blk_below hX13 hb) 0).trans rfl
    have q13_1 : w'.cell? ⟨gv, 1, none⟩ = some (vl) := (blk_cell (blk_below hX13 hb) 1).trans rfl
    have eg := hd 32 84 _ (by decide) (by kernel_rfl) rfl rfl
    replace eg : T.getD 84 undef = .bool true := eg
    rw [if_pos (wanted_yes 32 84 true rfl rfl eg)]
    clear eg
    clear hd hB
    go_simp
    exact hK _ (Below.refl _ _)
  refine DetR.cons (o := { dst := some 86, op := Op.call { callee := Callee.value (Operand.func 23), args := #[Operand.tmp 85], argTypes := #[30] }, type := 32, pos := "law.go:231", after := #[{ on := 33, ground := Ground.data }, { on := 32, ground := Ground.chain }, { on := 32, ground := Ground.guard }], guard := some (32, true) }) (fun u _ => ∃ A c, u = .slice A 1 c) rfl (by decide) (fun _ _ _ h _ => h) (fun T w' hb hd hB K hK => ?sx51) ?rx51
  case sx51 =>
    have e85 := hd 33 85 _ (by decide) (by kernel_rfl) rfl rfl
    replace e85 : T.getD 85 undef = _ := e85
    have eg := hd 32 84 _ (by decide) (by kernel_rfl) rfl rfl
    replace eg : T.getD 84 undef = .bool true := eg
    rw [if_pos (wanted_yes 32 84 true rfl rfl eg)]
    clear eg
    have hcl := hF34 w' hb
    clear hd hB
    go_simp
    go_at_call 23
    refine hcl.mono ?_
    rintro e w2 ⟨u, rfl, h1, h2⟩
    exact hK _ _ h2 h1
  refine DetR.is (o := { dst := some 87, op := Op.call { callee := Callee.builtin Builtin.len, args := #[Operand.tmp 86], argTypes := #[32] }, type := 3, pos := "law.go:231", after := #[{ on := 34, ground := Ground.data }, { on := 32, ground := Ground.guard }], guard := some (32, true) }) (u := ?ux52) rfl (by decide) (fun T w' hb hd hB K hK => ?sx52) ?rx52
  case sx52 =>
    obtain ⟨A86, c86, e86⟩ := (hd 34 86 _ (by decide) (by kernel_rfl) rfl rfl)
    have eg := hd 32 84 _ (by decide) (by kernel_rfl) rfl rfl
    replace eg : T.getD 84 undef = .bool true := eg
    rw [if_pos (wanted_yes 32 84 true rfl rfl eg)]
    clear eg
    clear hd hB
    go_simp
    exact hK _ (Below.refl _ _)
  refine DetR.is (o := { dst := some 88, op := Op.binOp BinOp.eql 3 (Operand.tmp 87) (Operand.const (Value.int IntKind.i64 1)) 3, type := 4, pos := "law.go:231", after := #[{ on := 35, ground := Ground.data }, { on := 32, ground := Ground.guard }], guard := some (32, true) }) (u := .bool true) rfl (by decide) (fun T w' hb hd hB K hK => ?sx53) ?rx53
  case sx53 =>
    have e87 := hd 35 87 _ (by decide) (by kernel_rfl) rfl rfl
    replace e87 : T.getD 87 undef = _ := e87
    have eg := hd 32 84 _ (by decide) (by kernel_rfl) rfl rfl
    replace eg : T.getD 84 undef = .bool true := eg
    rw [if_pos (wanted_yes 32 84 true rfl rfl eg)]
    clear eg
    clear hd hB
    go_simp
    exact hK _ (Below.refl _ _)
  refine DetR.is (o := { dst := some 89, op := Op.pick (Operand.tmp 84) (Operand.tmp 88) (Operand.const (Value.bool false)), type := 4, pos := "law.go:231", after := #[{ on := 32, ground := Ground.data }, { on := 36, ground := Ground.data }], guard := none }) (u := ?ux54) rfl (by decide) (fun T w' hb hd hB K hK => ?sx54) ?rx54
  case sx54 =>
    have e84 := hd 32 84 _ (by decide) (by kernel_rfl) rfl rfl
    replace e84 : T.getD 84 undef = _ := e84
    have e88 := hd 36 88 _ (by decide) (by kernel_rfl) rfl rfl
    replace e88 : T.getD 88 undef = _ := e88
    rw [if_pos (wanted_none _ rfl)]
    clear hd hB
    go_simp
    exact hK _ (Below.refl _ _)
  refine DetR.is (o := { dst := some 90, op := Op.move (Operand.tmp 89), type := 4, pos := "law.go:231", after := #[{ on := 37, ground := Ground.data }, { on := 34, ground := Ground.chain }], guard := none }) (u := .bool true) rfl (by decide) (fun T w' hb hd hB K hK => ?sx55) ?rx55
  case sx55 =>
    have e89 := hd 37 89 _ (by decide) (by kernel_rfl) rfl rfl
    replace e89 : T.getD 89 undef = _ := e89
    rw [if_pos (wanted_none _ rfl)]
    clear hd hB
    go_simp
    exact hK _ (Below.refl _ _)
  refine DetR.is (o := { dst := some 91, op := Op.load 30 (Operand.tmp 10), type := 30, pos := "law.go:231", after := #[{ on := 38, ground := Ground.guard }], guard := some (38, true) }) (u := ?ux56) rfl (by decide) (fun T w' hb hd hB K hK => ?sx56) ?rx56
  case sx56 =>
    have e10 := (hB 10 (by kernel_rfl)).trans hT10
    have q10_0 : w'.cell? ⟨gp, 0, none⟩ = some (.int .i64 f) := (blk_cell (blk_below hX10 hb) 0).trans rfl
    have q10_1 : w'.cell? ⟨gp, 1, none⟩ = some (.slice (some ⟨gs, 0, none⟩) 2 2) := (blk_cell (blk_below hX10 hb) 1).trans rfl
    have eg := hd 38 90 _ (by decide) (by kernel_rfl) rfl rfl
    replace eg : T.getD 90 undef = .bool true := eg
    rw [if_pos (wanted_yes 38 90 true rfl rfl eg)]
    clear eg
    clear hd hB
    go_simp
    exact hK _ (Below.refl _ _)
  refine DetR.is (o := { dst := some 92, op := Op.load 30 (Operand.tmp 11), type := 30, pos := "law.go:231", after := #[{ on := 38, ground := Ground.guard }], guard := some (38, true) }) (u := ?ux57) rfl (by decide) (fun T w' hb hd hB K hK => ?sx57) ?rx57
  case sx57 =>
    have e11 := (hB 11 (by kernel_rfl)).trans hT11
    have q11_0 : w'.cell? ⟨gq, 0, none⟩ = some (.int .i64 f) := (blk_cell (blk_below hX11 hb) 0).trans rfl
    have q11_1 : w'.cell? ⟨gq, 1, none⟩ = some (ql) := (blk_cell (blk_below hX11 hb) 1).trans rfl
    have eg := hd 38 90 _ (by decide) (by kernel_rfl) rfl rfl
    replace eg : T.getD 90 undef = .bool true := eg
    rw [if_pos (wanted_yes 38 90 true rfl rfl eg)]
    clear eg
    clear hd hB
    go_simp
    exact hK _ (Below.refl _ _)
  refine DetR.is (o := { dst := some 93, op := Op.call { callee := Callee.value (Operand.func 36), args := #[Operand.tmp 91, Operand.tmp 92], argTypes := #[30, 30] }, type := 3, pos := "law.go:231", after := #[{ on := 39, ground := Ground.data }, { on := 40, ground := Ground.data }, { on := 38, ground := Ground.chain }, { on := 38, ground := Ground.guard }], guard := some (38, true) }) (u := ?ux58) rfl (by decide) (fun T w' hb hd hB K hK => ?sx58) ?rx58
  case sx58 =>
    have e91 := hd 39 91 _ (by decide) (by kernel_rfl) rfl rfl
    replace e91 : T.getD 91 undef = _ := e91
    have e92 := hd 40 92 _ (by decide) (by kernel_rfl) rfl rfl
    replace e92 : T.getD 92 undef = _ := e92
    have eg := hd 38 90 _ (by decide) (by kernel_rfl) rfl rfl
    replace eg : T.getD 90 undef = .bool true := eg
    rw [if_pos (wanted_yes 38 90 true rfl rfl eg)]
    clear eg
    have hcl := hF41 w' hb
    clear hd hB
    go_simp
    go_at_call 36
    refine hcl.mono ?_
    rintro e w2 ⟨rfl, h2⟩
    exact hK _ h2
  refine DetR.is (o := { dst := some 94, op := Op.binOp BinOp.eql 3 (Operand.tmp 93) (Operand.const (Value.int IntKind.i64 0)) 3, type := 4, pos := "law.go:231", after := #[{ on := 41, ground := Ground.data }, { on := 38, ground := Ground.guard }], guard := some (38, true) }) (u := .bool s) rfl (by decide) (fun T w' hb hd hB K hK => ?sx59) ?rx59
  case sx59 =>
    have e93 := hd 41 93 _ (by decide) (by kernel_rfl) rfl rfl
    replace e93 : T.getD 93 undef = _ := e93
    have eg := hd 38 90 _ (by decide) (by kernel_rfl) rfl rfl
    replace eg : T.getD 90 undef = .bool true := eg
    rw [if_pos (wanted_yes 38 90 true rfl rfl eg)]
    clear eg
    clear hd hB
    go_simp
    try rw [hk]
    exact hK _ (Below.refl _ _)
  refine DetR.is (o := { dst := some 95, op := Op.move (Operand.tmp 9), type := 4, pos := "law.go:231", after := #[{ on := 38, ground := Ground.guard }], guard := some (38, true) }) (u := ?ux60) rfl (by decide) (fun T w' hb hd hB K hK => ?sx60) ?rx60
  case sx60 =>
    have e9 := (hB 9 (by kernel_rfl)).trans hT9
    have eg := hd 38 90 _ (by decide) (by kernel_rfl) rfl rfl
    replace eg : T.getD 90 undef = .bool true := eg
    rw [if_pos (wanted_yes 38 90 true rfl rfl eg)]
    clear eg
    clear hd hB
    go_simp
    exact hK _ (Below.refl _ _)
  refine DetR.is (o := { dst := some 96, op := Op.binOp BinOp.eql 4 (Operand.tmp 94) (Operand.tmp 95) 4, type := 4, pos := "law.go:231", after := #[{ on := 42, ground := Ground.data }, { on := 43, ground := Ground.data }, { on := 38, ground := Ground.guard }], guard := some (38, true) }) (u := .bool true) rfl (by decide) (fun T w' hb hd hB K hK => ?sx61) ?rx61
  case sx61 =>
    have e94 := hd 42 94 _ (by decide) (by kernel_rfl) rfl rfl
    replace e94 : T.getD 94 undef = _ := e94
    have e95 := hd 43 95 _ (by decide) (by kernel_rfl) rfl rfl
    replace e95 : T.getD 95 undef = _ := e95
    have eg := hd 38 90 _ (by decide) (by kernel_rfl) rfl rfl
    replace eg : T.getD 90 undef = .bool true := eg
    rw [if_pos (wanted_yes 38 90 true rfl rfl eg)]
    clear eg
    clear hd hB
    go_simp
    try simp only [beq_self_eq_true]
    exact hK _ (Below.refl _ _)
  refine DetR.is (o := { dst := some 97, op := Op.pick (Operand.tmp 90) (Operand.tmp 96) (Operand.const (Value.bool false)), type := 4, pos := "law.go:231", after := #[{ on := 38, ground := Ground.data }, { on := 44, ground := Ground.data }], guard := none }) (u := ?ux62) rfl (by decide) (fun T w' hb hd hB K hK => ?sx62) ?rx62
  case sx62 =>
    have e90 := hd 38 90 _ (by decide) (by kernel_rfl) rfl rfl
    replace e90 : T.getD 90 undef = _ := e90
    have e96 := hd 44 96 _ (by decide) (by kernel_rfl) rfl rfl
    replace e96 : T.getD 96 undef = _ := e96
    rw [if_pos (wanted_none _ rfl)]
    clear hd hB
    go_simp
    exact hK _ (Below.refl _ _)
  refine DetR.is (o := { dst := some 98, op := Op.move (Operand.tmp 97), type := 4, pos := "law.go:231", after := #[{ on := 45, ground := Ground.data }, { on := 41, ground := Ground.chain }], guard := none }) (u := .bool true) rfl (by decide) (fun T w' hb hd hB K hK => ?sx63) ?rx63
  case sx63 =>
    have e97 := hd 45 97 _ (by decide) (by kernel_rfl) rfl rfl
    replace e97 : T.getD 97 undef = _ := e97
    rw [if_pos (wanted_none _ rfl)]
    clear hd hB
    go_simp
    exact hK _ (Below.refl _ _)
  refine DetR.is (o := { dst := some 99, op := Op.load 30 (Operand.tmp 10), type := 30, pos := "law.go:231", after := #[{ on := 46, ground := Ground.guard }], guard := some (46, true) }) (u := ?ux64) rfl (by decide) (fun T w' hb hd hB K hK => ?sx64) ?rx64
  case sx64 =>
    have e10 := (hB 10 (by kernel_rfl)).trans hT10
    have q10_0 : w'.cell? ⟨gp, 0, none⟩ = some (.int .i64 f) := (blk_cell (blk_below hX10 hb) 0).trans rfl
    have q10_1 : w'.cell? ⟨gp, 1, none⟩ = some (.slice (some ⟨gs, 0, none⟩) 2 2) := (blk_cell (blk_below hX10 hb) 1).trans rfl
    have eg := hd 46 98 _ (by decide) (by kernel_rfl) rfl rfl
    replace eg : T.getD 98 undef = .bool true := eg
    rw [if_pos (wanted_yes 46 98 true rfl rfl eg)]
    clear eg
    clear hd hB
    go_simp
    exact hK _ (Below.refl _ _)
  refine DetR.is (o := { dst := some 100, op := Op.move (Operand.tmp 2), type := 5, pos := "law.go:231", after := #[{ on := 46, ground := Ground.guard }], guard := some (46, true) }) (u := ?ux65) rfl (by decide) (fun T w' hb hd hB K hK => ?sx65) ?rx65
  case sx65 =>
    have e2 := (hB 2 (by kernel_rfl)).trans hT2
    have eg := hd 46 98 _ (by decide) (by kernel_rfl) rfl rfl
    replace eg : T.getD 98 undef = .bool true := eg
    rw [if_pos (wanted_yes 46 98 true rfl rfl eg)]
    clear eg
    clear hd hB
    go_simp
    exact hK _ (Below.refl _ _)
  refine DetR.is (o := { dst := some 101, op := Op.convert 5 3 (Operand.tmp 100), type := 3, pos := "law.go:231", after := #[{ on := 48, ground := Ground.data }, { on := 46, ground := Ground.guard }], guard := some (46, true) }) (u := .int .i64 f) rfl (by decide) (fun T w' hb hd hB K hK => ?sx66) ?rx66
  case sx66 =>
    have e100 := hd 48 100 _ (by decide) (by kernel_rfl) rfl rfl
    replace e100 : T.getD 100 undef = _ := e100
    have eg := hd 46 98 _ (by decide) (by kernel_rfl) rfl rfl
    replace eg : T.getD 98 undef = .bool true := eg
    rw [if_pos (wanted_yes 46 98 true rfl rfl eg)]
    clear eg
    clear hd hB
    go_simp
    rw [show IntKind.i64.wrap f = f from by rw [i64_w]; unfold wrap64; omega]
    exact hK _ (Below.refl _ _)
  refine DetR.is (o := { dst := some 102, op := Op.load 30 (Operand.tmp 7), type := 30, pos := "law.go:231", after := #[{ on := 46, ground := Ground.guard }], guard := some (46, true) }) (u := ?ux67) rfl (by decide) (fun T w' hb hd hB K hK => ?sx67) ?rx67
  case sx67 =>
    have e7 := (hB 7 (by kernel_rfl)).trans hT7
    have q7_0 : w'.cell? ⟨ga, 0, none⟩ = some (xf) := (blk_cell (blk_below hX7 hb) 0).trans rfl
    have q7_1 : w'.cell? ⟨ga, 1, none⟩ = some (xl) := (blk_cell (blk_below hX7 hb) 1).trans rfl
    have eg := hd 46 98 _ (by decide) (by kernel_rfl) rfl rfl
    replace eg : T.getD 98 undef = .bool true := eg
    rw [if_pos (wanted_yes 46 98 true rfl rfl eg)]
    clear eg
    clear hd hB
    go_simp
    exact hK _ (Below.refl _ _)
  refine DetR.cons (o := { dst := some 103, op := Op.buildSlice 28 1 #[(0, Operand.tmp 102)], type := 28, pos := "law.go:231", after := #[{ on := 50, ground := Ground.data }, { on := 46, ground := Ground.guard }], guard := some (46, true) }) (BlockTold 0 (fun g => .slice (some ⟨g, 0, none⟩) 1 1) #[xf, xl] 30) rfl (by decide) (BlockTold.grows _ _ _ _) (fun T w' hb hd hB K hK => ?sx68) ?rx68
  case sx68 =>
    have e102 := hd 50 102 _ (by decide) (by kernel_rfl) rfl rfl
    replace e102 : T.getD 102 undef = _ := e102
    have z102 : T[102]?.getD undef = _ := Array.getD_eq_getD_getElem?.symm.trans e102
    have eg := hd 46 98 _ (by decide) (by kernel_rfl) rfl rfl
    replace eg : T.getD 98 undef = .bool true := eg
    rw [if_pos (wanted_yes 46 98 true rfl rfl eg)]
    clear eg
    clear hd hB
    go_simp
    exact hK _ _ (below_alloc (Below.refl _ _) _) ⟨w'.heap.size, rfl, Nat.zero_le _, heap_alloc_new _ _⟩
  refine DetR.cons (o := { dst := some 104, op := Op.build 30 #[(0, Operand.tmp 101), (1, Operand.tmp 103)], type := 30, pos := "law.go:231", after := #[{ on := 49, ground := Ground.data }, { on := 51, ground := Ground.data }, { on := 46, ground := Ground.guard }], guard := some (46, true) }) (BlockTold 0 (fun g => .agg #[.int .i64 f, .slice (some ⟨g, 0, none⟩) 1 1]) #[xf, xl] 30) rfl (by decide) (BlockTold.grows _ _ _ _) (fun T w' hb hd hB K hK => ?sx69) ?rx69
  case sx69 =>
    have e101 := hd 49 101 _ (by decide) (by kernel_rfl) rfl rfl
    replace e101 : T.getD 101 undef = _ := e101
    have z101 : T[101]?.getD undef = _ := Array.getD_eq_getD_getElem?.symm.trans e101
    obtain ⟨gs103, e103, hge103, hbs103⟩ := (hd 51 103 _ (by decide) (by kernel_rfl) rfl rfl)
    have z103 : T[103]?.getD undef = _ := Array.getD_eq_getD_getElem?.symm.trans e103
    have eg := hd 46 98 _ (by decide) (by kernel_rfl) rfl rfl
    replace eg : T.getD 98 undef = .bool true := eg
    rw [if_pos (wanted_yes 46 98 true rfl rfl eg)]
    clear eg
    clear hd hB
    go_simp
    exact hK _ _ (Below.refl _ _) ⟨_, rfl, by assumption, by assumption⟩
  refine DetR.is (o := { dst := some 105, op := Op.call { callee := Callee.value (Operand.func 37), args := #[Operand.tmp 99, Operand.tmp 104], argTypes := #[30, 30] }, type := 4, pos := "law.go:231", after := #[{ on := 47, ground := Ground.data }, { on := 52, ground := Ground.data }, { on := 46, ground := Ground.chain }, { on := 46, ground := Ground.guard }], guard := some (46, true) }) (u := ?ux70) rfl (by decide) (fun T w' hb hd hB K hK => ?sx70) ?rx70
  case sx70 =>
    have e99 := hd 47 99 _ (by decide) (by kernel_rfl) rfl rfl
    replace e99 : T.getD 99 undef = _ := e99
    obtain ⟨gs104, e104, hge104, hbs104⟩ := (hd 52 104 _ (by decide) (by kernel_rfl) rfl rfl)
    have eg := hd 46 98 _ (by decide) (by kernel_rfl) rfl rfl
    replace eg : T.getD 98 undef = .bool true := eg
    rw [if_pos (wanted_yes 46 98 true rfl rfl eg)]
    clear eg
    have hcl := hS w' gs104 hb hbs104
    clear hd hB
    go_simp
    go_at_call 37
    refine hcl.mono ?_
    rintro e w2 ⟨rfl, h2⟩
    exact hK _ h2
  refine DetR.is (o := { dst := some 106, op := Op.unOp UnOp.not 4 (Operand.tmp 105), type := 4, pos := "law.go:231", after := #[{ on := 53, ground := Ground.data }, { on := 46, ground := Ground.guard }], guard := some (46, true) }) (u := .bool true) rfl (by decide) (fun T w' hb hd hB K hK => ?sx71) ?rx71
  case sx71 =>
    have e105 := hd 53 105 _ (by decide) (by kernel_rfl) rfl rfl
    replace e105 : T.getD 105 undef = _ := e105
    have eg := hd 46 98 _ (by decide) (by kernel_rfl) rfl rfl
    replace eg : T.getD 98 undef = .bool true := eg
    rw [if_pos (wanted_yes 46 98 true rfl rfl eg)]
    clear eg
    clear hd hB
    go_simp
    exact hK _ (Below.refl _ _)
  refine DetR.is (o := { dst := some 107, op := Op.pick (Operand.tmp 98) (Operand.tmp 106) (Operand.const (Value.bool false)), type := 4, pos := "law.go:231", after := #[{ on := 46, ground := Ground.data }, { on := 54, ground := Ground.data }], guard := none }) (u := ?ux72) rfl (by decide) (fun T w' hb hd hB K hK => ?sx72) ?rx72
  case sx72 =>
    have e98 := hd 46 98 _ (by decide) (by kernel_rfl) rfl rfl
    replace e98 : T.getD 98 undef = _ := e98
    have e106 := hd 54 106 _ (by decide) (by kernel_rfl) rfl rfl
    replace e106 : T.getD 106 undef = _ := e106
    rw [if_pos (wanted_none _ rfl)]
    clear hd hB
    go_simp
    exact hK _ (Below.refl _ _)
  refine DetR.is (o := { dst := some 6, op := Op.assign (Operand.tmp 107), type := 4, pos := "law.go:231", after := #[{ on := 55, ground := Ground.data }, { on := 53, ground := Ground.chain }, { on := 0, ground := Ground.phase }, { on := 1, ground := Ground.phase }, { on := 2, ground := Ground.phase }, { on := 3, ground := Ground.phase }, { on := 4, ground := Ground.phase }, { on := 5, ground := Ground.phase }, { on := 6, ground := Ground.phase }, { on := 7, ground := Ground.phase }, { on := 8, ground := Ground.phase }, { on := 9, ground := Ground.phase }, { on := 10, ground := Ground.phase }, { on := 11, ground := Ground.phase }, { on := 12, ground := Ground.phase }, { on := 13, ground := Ground.phase }, { on := 14, ground := Ground.phase }, { on := 15, ground := Ground.phase }, { on := 16, ground := Ground.phase }, { on := 17, ground := Ground.phase }, { on := 18, ground := Ground.phase }, { on := 19, ground := Ground.phase }, { on := 20, ground := Ground.phase }, { on := 21, ground := Ground.phase }, { on := 22, ground := Ground.phase }, { on := 23, ground := Ground.phase }, { on := 24, ground := Ground.phase }, { on := 25, ground := Ground.phase }, { on := 26, ground := Ground.phase }, { on := 27, ground := Ground.phase }, { on := 28, ground := Ground.phase }, { on := 29, ground := Ground.phase }, { on := 30, ground := Ground.phase }, { on := 31, ground := Ground.phase }, { on := 32, ground := Ground.phase }, { on := 33, ground := Ground.phase }, { on := 34, ground := Ground.phase }, { on := 35, ground := Ground.phase }, { on := 36, ground := Ground.phase }, { on := 37, ground := Ground.phase }, { on := 38, ground := Ground.phase }, { on := 39, ground := Ground.phase }, { on := 40, ground := Ground.phase }, { on := 41, ground := Ground.phase }, { on := 42, ground := Ground.phase }, { on := 43, ground := Ground.phase }, { on := 44, ground := Ground.phase }, { on := 45, ground := Ground.phase }, { on := 46, ground := Ground.phase }, { on := 47, ground := Ground.phase }, { on := 48, ground := Ground.phase }, { on := 49, ground := Ground.phase }, { on := 50, ground := Ground.phase }, { on := 51, ground := Ground.phase }, { on := 52, ground := Ground.phase }, { on := 53, ground := Ground.phase }, { on := 54, ground := Ground.phase }, { on := 55, ground := Ground.phase }], guard := none }) (u := ?ux73) rfl (by decide) (fun T w' hb hd hB K hK => ?sx73) ?rx73
  case sx73 =>
    have e107 := hd 55 107 _ (by decide) (by kernel_rfl) rfl rfl
    replace e107 : T.getD 107 undef = _ := e107
    rw [if_pos (wanted_none _ rfl)]
    clear hd hB
    go_simp
    exact hK _ (Below.refl _ _)
  refine DetR.done [some 52, some 53, some 54, some 55, some 56, some 57, some 58, some 59, some 60, some 61, some 62, some 63, some 64, some 65, some 66, some 67, some 68, some 69, some 70, some 71, some 72, some 73, some 74, some 75, some 76, some 77, some 78, some 79, some 80, some 81, some 82, some 83, some 84, some 85, some 86, some 87, some 88, some 89, some 90, some 91, some 92, some 93, some 94, some 95, some 96, some 97, some 98, some 99, some 100, some 101, some 102, some 103, some 104, some 105, some 106, some 107, some 6] (by kernel_rfl) rfl (by kernel_rfl) ?_
  intro v w' hb hv
  exact hK v w' hb (hv 56 _ (by decide) rfl)
end Go.Proofs.Ytpfddihcikiofaa.P
end

section
/- A term stored into a row of terms that is the call's own: the row reads as before, but for that place. -/
namespace Go.Proofs.Ytpfddihcikiofaa.P
open Go.RowKit Go.Proofs.YtpfddihcikiofaaW.PrintWords Go.Proofs.YtpfddihcikiofaaW.PrintLast Go.Proofs.YtpfddihcikiofaaW.PrintMore
set_option linter.unusedVariables false
set_option linter.unusedSimpArgs false

/-- The store of an element of two cells. -/
theorem R_store2 {α : Type} {d : Kd α} (hsz : d.sz = 2) {e base g n cap : Nat} {ok : Nat → Prop} {W : World} {xs : List α} (h : d.R e W base ok (.slice (some ⟨g, 0, none⟩) n cap) xs) (z : α) (i : Nat) (hi : i < n) {x' : α} {u v : Value}
    (hK : d.K ((W.setCell ⟨g, i * 2, none⟩ u).setCell ⟨g, i * 2 + 1, none⟩ v) x' [u, v]) : d.C ((W.setCell ⟨g, i * 2, none⟩ u).setCell ⟨g, i * 2 + 1, none⟩ v) (some ⟨g, 0, none⟩) n (xs.set i x') := by
  have hn := (Kd.R_reads' h).1
  have hC := (Kd.R_reads' h).2.2
  have hmax := hC.2.1
  obtain ⟨W', hW'⟩ : ∃ W', W' = (W.setCell ⟨g, i * 2, none⟩ u).setCell ⟨g, i * 2 + 1, none⟩ v := ⟨_, rfl⟩
  rw [← hW'] at hK ⊢
  have hfar : ∀ k, k ≠ g → W'.heap[k]? = W.heap[k]? := fun k hk => by rw [hW']; exact (Below.heap_setCell _ _ _ k hk).trans (Below.heap_setCell _ _ _ k hk)
  obtain ⟨g', cap', he, _, hlt, cells, hcells⟩ := Kd.R_form h (by omega)
  injection he with he _ _
  injection he with he
  injection he with he
  subst he
  have hb' : W'.heap[g]? = some (.cells ((cells.setIfInBounds (i * 2) u).setIfInBounds (i * 2 + 1) v) e (0, 0)) := by rw [hW']; exact blk_set (blk_set hcells _ _) _ _
  have hcw : ∀ o, W.cell? ⟨g, o, none⟩ = cells[o]? := fun o => blk_cell hcells o
  have hcw' : ∀ o, W'.cell? ⟨g, o, none⟩ = ((cells.setIfInBounds (i * 2) u).setIfInBounds (i * 2 + 1) v)[o]? := fun o => blk_cell hb' o
  refine ⟨by rw [List.length_set]; exact hn.symm, by omega, fun _ => ⟨_, rfl, fun j p hj => ?_⟩⟩
  have hjl : j < xs.length := by have := (List.getElem?_eq_some_iff.1 hj).1; rwa [List.length_set] at this
  have hA : ∀ o, (⟨g, 0, none⟩ : Addr).add o = ⟨g, o, none⟩ := fun o => by
    unfold Addr.add
    split
    · rename_i h0
      simp [h0]
    · simp
  obtain ⟨c, hcl, hM, hcc, _⟩ := Kd.R_elem h z (j : Int) (by omega) (by omega)
  rw [hsz] at hcl hcc ⊢
  rw [Int.toNat_natCast] at hM hcc
  have hin : ∀ q, q < 2 → j * 2 + q < cells.size := fun q hq => by
    have h1 := hcc q c[q] (List.getElem?_eq_getElem (by omega))
    rw [hcw] at h1
    exact (Array.getElem?_eq_some_iff.1 h1).1
  by_cases hji : j = i
  · subst hji
    rw [List.getElem?_set_self (by omega)] at hj
    injection hj with hj
    subst hj
    refine ⟨[u, v], rfl, hK, fun q y hq => ?_⟩
    rw [hA, hcw']
    match q with
    | 0 =>
      simp at hq
      subst hq
      rw [Array.getElem?_setIfInBounds, if_neg (by omega), Array.getElem?_setIfInBounds, if_pos (by omega), if_pos (by have := hin 0 (by omega); omega)]
    | 1 =>
      simp at hq
      subst hq
      rw [Array.getElem?_setIfInBounds, if_pos rfl, if_pos (by rw [Array.size_setIfInBounds]; exact hin 1 (by omega))]
    | q + 2 => simp at hq
  · rw [List.getElem?_set_ne (fun e => hji e.symm)] at hj
    have hp : xs.getD j z = p := by rw [List.getD_eq_getElem?_getD, hj]; rfl
    rw [hp] at hM
    refine ⟨c, hcl, d.K_of_M (d.M_move (fun k hk => hfar k hk.2) hM), fun q y hq => ?_⟩
    have hq2 : q < 2 := by have := (List.getElem?_eq_some_iff.1 hq).1; omega
    rw [hA, hcw', Array.getElem?_setIfInBounds, if_neg (by omega), Array.getElem?_setIfInBounds, if_neg (by omega), ← hcw]
    exact hcc q y hq
/-- A term stored into a row of terms of the call's own. -/
theorem T_store {base g n cap : Nat} {ok : Nat → Prop} {W : World} {xs : List S30} (h : k30.R 30 W base ok (.slice (some ⟨g, 0, none⟩) n cap) xs) (i : Nat) (hi : i < n) {x' : S30} {A : Option Addr} {c : Nat} (hc : x'.f1.length ≤ c)
    (hx : Kd.F k30 W (fun k => k ≠ g) A x'.f1.length x'.f1) : k30.C ((W.setCell ⟨g, i * 2, none⟩ (.int .i64 x'.f0)).setCell ⟨g, i * 2 + 1, none⟩ (.slice A x'.f1.length c)) (some ⟨g, 0, none⟩) n (xs.set i x') := by
  refine R_store2 (show k30.sz = 2 from rfl) h z30 i hi (k30_mk _ x' hc ?_)
  exact Kd.F_now (Kd.F_step hx (fun k hk _ => (Below.heap_setCell _ _ _ k hk).trans (Below.heap_setCell _ _ _ k hk)))
/-- A new row of terms in memory: its block, and the two cells of element i. -/
theorem T_cells {base : Nat} {ok : Nat → Prop} {W : World} {v : Value} {xs : List S30} (h : k30.R 30 W base ok v xs) (i : Nat) (hi : i < xs.length) :
    ∃ g cap cells d0 d1, v = .slice (some ⟨g, 0, none⟩) xs.length cap ∧ base ≤ g ∧ g < W.heap.size ∧ W.heap[g]? = some (.cells cells 30 (0, 0)) ∧ cells[i * 2]? = some d0 ∧ cells[i * 2 + 1]? = some d1 := by
  obtain ⟨g, cap, rfl, h1, h2, cells, h3⟩ := Kd.R_form h (by omega)
  obtain ⟨c, hcl, _, hcc, _⟩ := Kd.R_elem h z30 (i : Int) (by omega) (by omega)
  have hcl2 : c.length = 2 := hcl
  have e0 := hcc 0 _ (List.getElem?_eq_getElem (by omega))
  have e1 := hcc 1 _ (List.getElem?_eq_getElem (by omega))
  rw [Int.toNat_natCast, blk_cell h3] at e0 e1
  exact ⟨g, cap, cells, _, _, rfl, h1, h2, h3, e0, e1⟩
/-- What was there ahead of a new block can be read without it. -/
theorem F_came {W0 W : World} {g : Nat} {α : Type} {d : Kd α} (hd : Kd.Heap d) {A : Option Addr} {n : Nat} {l : List α} (h : d.C W0 A n l) (hg : W0.heap.size ≤ g) (hb : Below W0.heap.size W0 W) : Kd.F d W (fun k => k ≠ g) A n l := fun W' hW => by
  refine Kd.Heap.C hd (fun k hk => ?_) h
  rw [hW k (by omega) (Nat.lt_of_lt_of_le hk hb.size)]
  exact hb.block k hk
/-- The store's own world. -/
theorem below_set2 {N : Nat} {w W : World} {g i j : Nat} {u v : Value} (h : Below N w W) (hg : N ≤ g) : Below N w ((W.setCell ⟨g, i, none⟩ u).setCell ⟨g, j, none⟩ v) := (h.setCell hg _).setCell hg _
end Go.Proofs.Ytpfddihcikiofaa.P
end

section
/- What the laws of 06 and 10 share: the contracts' answers in plain Lean. -/
namespace Go.Proofs.Ytpfddihcikiofaa.P
open Go.RowKit Go.Proofs.YtpfddihcikiofaaW.PrintWords Go.Proofs.YtpfddihcikiofaaW.PrintLast Go.Proofs.YtpfddihcikiofaaW.PrintMore
set_option linter.unusedVariables false
set_option linter.unusedSimpArgs false

theorem Vars_is {t : S30} (h : (nodes t).length ≤ 1099511627776) : term_Vars.f t.f0 t.f1 = some (varsN (nodes t)) := by
  unfold term_Vars.f
  rw [S30.eta, if_pos (by rw [flatP_len]; exact h), varsP_eq, flatP_snd]
theorem Size_is {t : S30} (h : (nodes t).length ≤ 1099511627776) : term_Size.f t.f0 t.f1 = some ((nodes t).length : Int) := by
  unfold term_Size.f
  rw [S30.eta, flatP_len, if_pos h]
theorem Count_is {t : S30} (f : Int) (h : (nodes t).length ≤ 1099511627776) : term_Count.f t.f0 t.f1 f = some (countN f (nodes t) : Int) := by
  unfold term_Count.f
  rw [S30.eta, flatP_len, if_pos h, countP_eq, flatP_snd]
  rfl
theorem Places_is {t : S30} (h : (nodes t).length ≤ 1099511627776) : term_Places.f t.f0 t.f1 = some ((flatP [] t).map Prod.fst) := by
  unfold term_Places.f
  rw [S30.eta, flatP_len, if_pos h]
end Go.Proofs.Ytpfddihcikiofaa.P
end

section
/- The walk of TermSame. PRINTED by gen/gtermsame.py. -/
namespace Go.Proofs.Ytpfddihcikiofaa.P
open Go.RowKit Go.Proofs.YtpfddihcikiofaaW.PrintWords Go.Proofs.YtpfddihcikiofaaW.PrintLast Go.Proofs.YtpfddihcikiofaaW.PrintMore
set_option linter.unusedVariables false
set_option linter.unusedSimpArgs false


theorem same_facts (a b : S30) (f : Int) (hf : 0 ≤ f ∧ f ≤ 255) : (cmpT ⟨f, [a, b]⟩ ⟨f, [b, a]⟩ == 0) = (cmpT a b == 0) ∧ (cmpT ⟨f, [⟨999, []⟩, cloneT b]⟩ ⟨f, [a, b]⟩ == 0) = (cmpT a ⟨999, []⟩ == 0) ∧ (cmpT ⟨-1 - f, [a]⟩ ⟨-1 - f, []⟩ == 0) = true ∧ (cmpT ⟨f, [a, b]⟩ ⟨f, [a]⟩ == 0) = false ∧ cloneT ⟨f, [a, b]⟩ = ⟨f, [cloneT a, cloneT b]⟩ := by
  have h1 := cmp_anti a b
  have h2 := cmp_anti a ⟨999, []⟩
  have h3 := cmp_clone b
  have e0 : ∀ x y u v : S30, cmpT ⟨f, [x, y]⟩ ⟨f, [u, v]⟩ = orI (cmpT x u) (cmpT y v) 0 := fun x y u v => by
    simp [cmpT, cmpTs, cmpI, orI, show ¬ f < 0 by omega]
  have e1 := e0 a b b a
  have e2 : cmpT ⟨f, [⟨999, []⟩, cloneT b]⟩ ⟨f, [a, b]⟩ = cmpT ⟨999, []⟩ a := by
    rw [e0, h3]
    unfold orI
    split
    · rename_i h; rw [h]; rfl
    · rfl
  have e3 : cmpT ⟨-1 - f, [a]⟩ ⟨-1 - f, []⟩ = 0 := by
    simp [cmpT, cmpI, show -1 - f < 0 by omega]
  have e4 : cmpT ⟨f, [a, b]⟩ ⟨f, [a]⟩ = 1 := by
    simp [cmpT, cmpTs, cmpI, orI, show ¬ f < 0 by omega]
  refine ⟨?_, ?_, ?_, ?_, ?_⟩
  · rw [e1, h1]
    unfold orI
    generalize cmpT a b = k
    rw [Bool.eq_iff_iff]
    simp only [beq_iff_eq]
    split
    · split <;> omega
    · omega
  · rw [e2, h2]
    generalize cmpT a ⟨999, []⟩ = k
    rw [Bool.eq_iff_iff]
    simp only [beq_iff_eq]
    omega
  · rw [e3]; rfl
  · rw [e4]; rfl
  · simp [cloneT, cloneTs, show ¬ f < 0 by omega]

set_option maxHeartbeats 8000000 in
set_option maxRecDepth 100000 in
theorem TermSame_walk (a b : S24) (f : Int) (A : Option Addr) (c : Nat) (A' : Option Addr) (c' : Nat) (w : World) (hf : 0 ≤ f ∧ f ≤ 255)
    (hA : k24.C w A a.f1.length a.f1) (hc : a.f1.length ≤ c) (hA' : k24.C w A' b.f1.length b.f1) (hc' : b.f1.length ≤ c') :
    Calls Try.prog 6 #[.agg #[.int .i64 a.f0, .slice A a.f1.length c], .agg #[.int .i64 b.f0, .slice A' b.f1.length c'], .int .u8 f] w fun e w' => e = .returned (.bool true) ∧ Below w.heap.size w w' := by
  have hmx : Try.prog.follows .mixedOrders = true := by kernel_rfl
  obtain ⟨ok, hFine, hok⟩ := Fine_spec [a, b] (by simp)
  obtain ⟨kF, hF⟩ := hFine.rounds
  have hbA : Aside0 (∀ w1, Below w.heap.size w w1 → k24.C w1 A a.f1.length a.f1) := ⟨fun w1 h => Kd.C_below hA h⟩
  have hbB : Aside0 (∀ w1, Below w.heap.size w w1 → k24.C w1 A' b.f1.length b.f1) := ⟨fun w1 h => Kd.C_below hA' h⟩
  clear hA hA' hFine
  go_enter Try.func6, Try.ntmps6
  cases ok with
  | false =>
    go_wp2_with (first | (go_at_call 20; refine (soriteslaw06_alive.calls true _ alive06).mono ?_; rintro e w1 ⟨rfl, hb1⟩; have hs1 := hb1.size; simp only [World.size_alloc] at hs1; have hB1 : Below w.heap.size w w1 := (below_alloc (below_alloc (Below.refl _ _) _) _).trans (hb1.mono (by simp; omega)); have hg0 : w1.heap[w.heap.size]? = some (.cells #[.int .i64 a.f0, .slice A a.f1.length c] 24 (0, 0)) := blk_below (blk_alloc (heap_alloc_new _ _) _) hb1; have hg1 : w1.heap[w.heap.size + 1]? = some (.cells #[.int .i64 b.f0, .slice A' b.f1.length c'] 24 (0, 0)) := blk_below (by have := heap_alloc_new (w.alloc (.cells #[.int .i64 a.f0, .slice A a.f1.length c] 24)) (.cells #[.int .i64 b.f0, .slice A' b.f1.length c'] 24); rw [World.size_alloc] at this; exact this) hb1; have hx0 : w1.cell? ⟨w.heap.size, 0, none⟩ = some (.int .i64 a.f0) := (blk_cell hg0 0).trans rfl; have hx1 : w1.cell? ⟨w.heap.size, 1, none⟩ = some (.slice A a.f1.length c) := (blk_cell hg0 1).trans rfl; have hy0 : w1.cell? ⟨w.heap.size + 1, 0, none⟩ = some (.int .i64 b.f0) := (blk_cell hg1 0).trans rfl; have hy1 : w1.cell? ⟨w.heap.size + 1, 1, none⟩ = some (.slice A' b.f1.length c') := (blk_cell hg1 1).trans rfl) | (go_at_call 21; refine (soriteslaw06_Fine.calls kF _ 2 [a, b] _ _ (C2 k24 rfl (K24 (hbA.out _ (below_alloc hB1 _)) hc) (K24 (hbB.out _ (below_alloc hB1 _)) hc') (heap_alloc_new _ _)) (by simp) hF).mono ?_; rintro e w2 ⟨rfl, hb2⟩; have hB2 : Below w.heap.size w w2 := (below_alloc hB1 _).trans (hb2.mono (by simp; omega)); have hh0 := blk_below (blk_alloc hg0 _) hb2; have hh1 := blk_below (blk_alloc hg1 _) hb2))
    go_ret
    exact ⟨rfl, hB2⟩
  | true =>
    go_wp2_with (first | (go_at_call 20; refine (soriteslaw06_alive.calls true _ alive06).mono ?_; rintro e w1 ⟨rfl, hb1⟩; have hs1 := hb1.size; simp only [World.size_alloc] at hs1; have hB1 : Below w.heap.size w w1 := (below_alloc (below_alloc (Below.refl _ _) _) _).trans (hb1.mono (by simp; omega)); have hg0 : w1.heap[w.heap.size]? = some (.cells #[.int .i64 a.f0, .slice A a.f1.length c] 24 (0, 0)) := blk_below (blk_alloc (heap_alloc_new _ _) _) hb1; have hg1 : w1.heap[w.heap.size + 1]? = some (.cells #[.int .i64 b.f0, .slice A' b.f1.length c'] 24 (0, 0)) := blk_below (by have := heap_alloc_new (w.alloc (.cells #[.int .i64 a.f0, .slice A a.f1.length c] 24)) (.cells #[.int .i64 b.f0, .slice A' b.f1.length c'] 24); rw [World.size_alloc] at this; exact this) hb1; have hx0 : w1.cell? ⟨w.heap.size, 0, none⟩ = some (.int .i64 a.f0) := (blk_cell hg0 0).trans rfl; have hx1 : w1.cell? ⟨w.heap.size, 1, none⟩ = some (.slice A a.f1.length c) := (blk_cell hg0 1).trans rfl; have hy0 : w1.cell? ⟨w.heap.size + 1, 0, none⟩ = some (.int .i64 b.f0) := (blk_cell hg1 0).trans rfl; have hy1 : w1.cell? ⟨w.heap.size + 1, 1, none⟩ = some (.slice A' b.f1.length c') := (blk_cell hg1 1).trans rfl) | (go_at_call 21; refine (soriteslaw06_Fine.calls kF _ 2 [a, b] _ _ (C2 k24 rfl (K24 (hbA.out _ (below_alloc hB1 _)) hc) (K24 (hbB.out _ (below_alloc hB1 _)) hc') (heap_alloc_new _ _)) (by simp) hF).mono ?_; rintro e w2 ⟨rfl, hb2⟩; have hB2 : Below w.heap.size w w2 := (below_alloc hB1 _).trans (hb2.mono (by simp; omega)); have hh0 := blk_below (blk_alloc hg0 _) hb2; have hh1 := blk_below (blk_alloc hg1 _) hb2))
    have hoka := hok trivial a (by simp)
    have hokb := hok trivial b (by simp)
    refine of_two (x0 := a) (x1 := b) (g0 := w.heap.size) (g1 := w.heap.size + 1) (by kernel_rfl) (by kernel_rfl) rfl hh0 (hbA.out _ hB2) hc hoka.1 rfl hh1 (hbB.out _ hB2) hc' hokb.1 ?_
    intro w3 X0 q0 h0 X1 q1 h1 hb3 hge0 hx0' hq0 hC0 hge1 hx1' hq1 hC1
    have HB3 := Aside0.mk (hB2.trans (hb3.mono hB2.size))
    have HC0 := Aside0.mk hC0
    have HC1 := Aside0.mk hC1
    have HX0 := Aside0.mk hx0'
    have HX1 := Aside0.mk hx1'
    have hna := Nat.le_trans (nodes_le a) hoka.2
    have hnb := Nat.le_trans (nodes_le b) hokb.2
    have hokp : ok ⟨f, [a, b]⟩ := ⟨by show -1000 ≤ f; omega, by show f ≤ 1000; omega, by simp, by simp [oks, hoka.1, hokb.1]⟩
    have hfs := same_facts a b f hf
    obtain ⟨kc, hcl⟩ := (Clone_spec ⟨f, [a, b]⟩ hokp).rounds
    have FH := Aside0.mk (And.intro hfs (And.intro hcl hokp))
    have FF := Aside0.mk hf
    have hsab := Aside0.mk (Same_of a b)
    obtain ⟨s, hs⟩ : ∃ s, s = (cmpT a b == 0) := ⟨_, rfl⟩
    rw [← hs] at hsab
    replace hs := Aside0.mk hs
    clear hfs hcl hokp hoka hokb hok hna hnb hbA hbB hC0 hC1 hx0' hx1' hb3 hg0 hg1 hh0 hh1 hx0 hx1 hy0 hy1 hB1 hB2 hb1 hb2 hF hge0 hge1
    simp only [List.setIfInBounds_toArray, List.set_cons_zero, List.set_cons_succ]
    have k00 : w3.cell? ⟨h0, 0, none⟩ = some (.int .i64 a.f0) := (blk_cell HX0.out 0).trans rfl
    have k01 : w3.cell? ⟨h0, 1, none⟩ = some (.slice X0 a.f1.length q0) := (blk_cell HX0.out 1).trans rfl
    have k10 : w3.cell? ⟨h1, 0, none⟩ = some (.int .i64 b.f0) := (blk_cell HX1.out 0).trans rfl
    have k11 : w3.cell? ⟨h1, 1, none⟩ = some (.slice X1 b.f1.length q1) := (blk_cell HX1.out 1).trans rfl
    go_wp2_with (go_at_call 37; refine (term_Same.calls _ _ _ a.f1 _ _ _ b.f1 s _ HC0.out hq0 HC1.out hq1 hsab.out).mono ?_; rintro e w4 ⟨rfl, hb4⟩)
    refine TermSame_r7 (f := f) (ga := h0) (gb := h1) (by kernel_rfl) rfl rfl (blk_below HX0.out hb4) rfl (blk_below HX1.out hb4) FF.out ?_
    intro v w5 gs1 gs2 gp gq hv12 hv13 hgp hgq hpq hbp hbq hbs1 hbs2 hb5
    simp only [layL, Nat.reduceAdd, List.setIfInBounds_toArray, List.set_cons_zero, List.set_cons_succ, hv12, hv13]
    clear hv12 hv13
    generalize v 0 = y0
    generalize v 1 = y1
    generalize v 2 = y2
    generalize v 3 = y3
    generalize v 4 = y4
    generalize v 5 = y5
    generalize v 6 = y6
    generalize v 7 = y7
    generalize v 8 = y8
    generalize v 9 = y9
    generalize v 10 = y10
    generalize v 11 = y11
    clear v k00 k01 k10 k11
    have hB5 := Aside0.mk ((HB3.out.trans (hb4.mono HB3.out.size)).trans (hb5.mono (Nat.le_trans HB3.out.size hb4.size)))
    replace HX0 := Aside0.mk (blk_below (blk_below HX0.out hb4) hb5)
    replace HX1 := Aside0.mk (blk_below (blk_below HX1.out hb4) hb5)
    replace HC0 := Aside0.mk (Kd.C_below (Kd.C_below HC0.out hb4) hb5)
    replace HC1 := Aside0.mk (Kd.C_below (Kd.C_below HC1.out hb4) hb5)
    have HP := Aside0.mk hbp
    have HQ := Aside0.mk hbq
    have HS1 := Aside0.mk hbs1
    have HS2 := Aside0.mk hbs2
    have hcl : term_Clone.f kc f [a, b] = some (f, [cloneT a, cloneT b]) := by
      have h1 := FH.out.2.1
      rw [FH.out.1.2.2.2.2] at h1
      exact h1
    have hCp := Aside0.mk (C2 k30 rfl (K30 HC0.out hq0) (K30 HC1.out hq1) HS1.out)
    have kp0 : w5.cell? ⟨gp, 0, none⟩ = some (.int .i64 f) := (blk_cell HP.out 0).trans rfl
    have kp1 : w5.cell? ⟨gp, 1, none⟩ = some (.slice (some ⟨gs1, 0, none⟩) 2 2) := (blk_cell HP.out 1).trans rfl
    clear hbp hbq hbs1 hbs2 hb4 hb5 hgp hgq HB3
    go_wp2_with (go_at_call 38; refine (term_Clone.calls kc f (some ⟨gs1, 0, none⟩) 2 [a, b] f [cloneT a, cloneT b] w5 hCp.out (by simp) hcl).mono ?_; rintro e w6 ⟨v1, rfl, hR, hb6⟩; obtain ⟨gc, cap, ccs, d0, d1, hv1, hgcb, hgcl, hccs, u0, u1⟩ := T_cells hR 0 (by simp); replace hv1 : v1 = .slice (some ⟨gc, 0, none⟩) 2 cap := hv1; subst hv1; have HU := Aside0.mk (And.intro u0 u1); have p0 : (w6.alloc (.cells #[.int .i64 f, .slice (some ⟨gc, 0, none⟩) 2 cap] 30)).cell? ⟨gc, 0, none⟩ = some d0 := (blk_cell (blk_alloc hccs _) 0).trans HU.out.1; have p1 : ((w6.alloc (.cells #[.int .i64 f, .slice (some ⟨gc, 0, none⟩) 2 cap] 30)).setCell ⟨gc, 0, none⟩ (.int .i64 999)).cell? ⟨gc, 1, none⟩ = some d1 := (blk_cell (blk_set (blk_alloc hccs _) 0 _) 1).trans (by rw [Array.getElem?_setIfInBounds, if_neg (by decide)]; exact HU.out.2); have z0 := blk_frozen (blk_alloc hccs (.cells #[.int .i64 f, .slice (some ⟨gc, 0, none⟩) 2 cap] 30)) 0; have z1 := blk_frozen (blk_set (blk_alloc hccs (.cells #[.int .i64 f, .slice (some ⟨gc, 0, none⟩) 2 cap] 30)) 0 (.int .i64 999)) 1; have hn0 : h0 ≠ gc := (fun e => by have := blk_lt HX0.out; omega); have HW := Aside0.mk (blk_far (p := ⟨gc, 1, none⟩) (blk_far (p := ⟨gc, 0, none⟩) (blk_alloc (blk_below HX0.out hb6) (.cells #[.int .i64 f, .slice (some ⟨gc, 0, none⟩) 2 cap] 30)) hn0 (.int .i64 999)) hn0 (.slice none 0 0)); have m0 : (((w6.alloc (.cells #[.int .i64 f, .slice (some ⟨gc, 0, none⟩) 2 cap] 30)).setCell ⟨gc, 0, none⟩ (.int .i64 999)).setCell ⟨gc, 1, none⟩ (.slice none 0 0)).cell? ⟨h0, 0, none⟩ = some (.int .i64 a.f0) := (blk_cell HW.out 0).trans rfl; have m1 : (((w6.alloc (.cells #[.int .i64 f, .slice (some ⟨gc, 0, none⟩) 2 cap] 30)).setCell ⟨gc, 0, none⟩ (.int .i64 999)).setCell ⟨gc, 1, none⟩ (.slice none 0 0)).cell? ⟨h0, 1, none⟩ = some (.slice X0 a.f1.length q0) := (blk_cell HW.out 1).trans rfl; have HR := Aside0.mk hR; have HCC := Aside0.mk hccs; have HB6 := Aside0.mk hb6; have HG := Aside0.mk (And.intro hgcb hgcl); have HG2 := (Kd.R_reads' HR.out).2.1; clear hR hccs hb6 u0 u1 hgcb hgcl)
    clear m0 m1 p0 p1 z0 z1 kp0 kp1 hcl
    have HRa := Kd.R_alloc HR.out (.cells #[.int .i64 f, .slice (some ⟨gc, 0, none⟩) 2 cap] 30)
    have hCc := T_store HRa 0 (by simp) (x' := ⟨999, []⟩) (A := none) (c := 0) (Nat.le_refl _) (Kd.F_nil k30 _ _)
    have hbx12 := blk_far (p := ⟨gc, 1, none⟩) (blk_far (p := ⟨gc, 0, none⟩) (heap_alloc_new w6 (.cells #[.int .i64 f, .slice (some ⟨gc, 0, none⟩) 2 cap] 30)) (Nat.ne_of_gt HG.out.2) (.int .i64 999)) (Nat.ne_of_gt HG.out.2) (.slice none 0 0)
    have hW7 := Below.setCell (Below.setCell (below_alloc HB6.out (.cells #[.int .i64 f, .slice (some ⟨gc, 0, none⟩) 2 cap] 30)) (p := ⟨gc, 0, none⟩) HG.out.1 (.int .i64 999)) (p := ⟨gc, 1, none⟩) HG.out.1 (.slice none 0 0)
    have hsz7 : (((w6.alloc (.cells #[.int .i64 f, .slice (some ⟨gc, 0, none⟩) 2 cap] 30)).setCell ⟨gc, 0, none⟩ (.int .i64 999)).setCell ⟨gc, 1, none⟩ (.slice none 0 0)).heap.size = w6.heap.size + 1 := by rw [setCell_size, setCell_size, World.size_alloc]
    obtain ⟨w7, hw7⟩ : ∃ w7, w7 = (((w6.alloc (.cells #[.int .i64 f, .slice (some ⟨gc, 0, none⟩) 2 cap] 30)).setCell ⟨gc, 0, none⟩ (.int .i64 999)).setCell ⟨gc, 1, none⟩ (.slice none 0 0)) := ⟨_, rfl⟩
    replace hCc : k30.C w7 (some ⟨gc, 0, none⟩) 2 [⟨999, []⟩, cloneT b] := by rw [hw7]; exact hCc
    rw [← hw7] at hbx12 hW7 hsz7 HW ⊢
    have hrow := heap_alloc_new w7 (.cells #[.int .i64 a.f0, .slice X0 a.f1.length q0] 30)
    rw [hsz7] at hrow
    have hbx13 := heap_alloc_new (w7.alloc (.cells #[.int .i64 a.f0, .slice X0 a.f1.length q0] 30)) (.cells #[.int .i64 (-1 - f), .slice (some ⟨w6.heap.size + 1, 0, none⟩) 1 1] 30)
    rw [World.size_alloc, hsz7] at hbx13
    obtain ⟨w8, hw8⟩ : ∃ w8, w8 = (w7.alloc (.cells #[.int .i64 a.f0, .slice X0 a.f1.length q0] 30)).alloc (.cells #[.int .i64 (-1 - f), .slice (some ⟨w6.heap.size + 1, 0, none⟩) 1 1] 30) := ⟨_, rfl⟩
    have h78 : Below w7.heap.size w7 w8 := by rw [hw8]; exact below_alloc (below_alloc (Below.refl _ _) _) _
    replace hrow : w8.heap[w6.heap.size + 1]? = some (.cells #[.int .i64 a.f0, .slice X0 a.f1.length q0] 30 (0, 0)) := by rw [hw8]; exact blk_alloc hrow _
    rw [← hw8] at hbx13 ⊢
    clear hw8 hw7 HCC HR HRa
    have h58 : Below w5.heap.size w5 w8 := hW7.trans (h78.mono hW7.size)
    have D0 := Kd.C_below HC0.out h58
    have D1 := Kd.C_below HC1.out h58
    have DP := C2 k30 rfl (K30 D0 hq0) (K30 D1 hq1) (blk_below HS1.out h58)
    have DQ := C2 k30 rfl (K30 D1 hq1) (K30 D0 hq0) (blk_below HS2.out h58)
    have DC := Kd.C_below hCc h78
    have DV := C1 k30 rfl (K30 D0 hq0) hrow
    have N : ∀ w : World, k30.C w none ([] : List S30).length [] := fun w => Kd.C_nil k30 w
    obtain ⟨hf1, hf2, hf3, hf4, _⟩ := FH.out.1
    have e_pq := Same_of ⟨f, [a, b]⟩ ⟨f, [b, a]⟩
    rw [hf1, ← hs.out] at e_pq
    have e_xx := Same_of a a
    rw [cmp_self a] at e_xx
    have e_cp := Same_of ⟨f, [⟨999, []⟩, cloneT b]⟩ ⟨f, [a, b]⟩
    rw [hf2] at e_cp
    have e_x9 := Same_of a ⟨999, []⟩
    have e_vv := Same_of ⟨-1 - f, [a]⟩ ⟨-1 - f, []⟩
    rw [hf3] at e_vv
    have e_k := Cmp_of ⟨f, [a, b]⟩ ⟨f, [b, a]⟩
    have e_px := Same_of ⟨f, [a, b]⟩ ⟨f, [a]⟩
    rw [hf4] at e_px
    have e_pl : term_Places.f (-1 - f) [a] = some [[]] := by
      have h0 : flatP [] ⟨-1 - f, [a]⟩ = [([], ⟨-1 - f, [a]⟩)] := by simp [flatP, show -1 - f < 0 by omega]
      unfold term_Places.f
      rw [h0]
      rfl
    have hk : (cmpT ⟨f, [a, b]⟩ ⟨f, [b, a]⟩ == 0) = s := by rw [hf1, hs.out]
    have FX := Aside0.mk (And.intro e_pq (And.intro e_xx (And.intro e_cp (And.intro e_x9 (And.intro e_vv (And.intro e_k (And.intro e_px (And.intro e_pl hk))))))))
    clear e_pq e_xx e_cp e_x9 e_vv e_k e_px e_pl hk hf1 hf2 hf3 hf4
    refine TermSame_r11 (f := f) (k := cmpT ⟨f, [a, b]⟩ ⟨f, [b, a]⟩) (s := s) (s2 := (cmpT a ⟨999, []⟩ == 0)) (ga := h0) (gp := gp) (gq := gq) (gc := w6.heap.size) (gv := w6.heap.size + 1 + 1) (gs := gs1) (by kernel_rfl) rfl rfl rfl (blk_below HX0.out h58) rfl (blk_below HP.out h58) rfl (blk_below HQ.out h58) rfl (blk_below hbx12 h78) rfl hbx13 ?_ ?_ ?_ ?_ ?_ ?_ ?_ FF.out FX.out.2.2.2.2.2.2.2.2 (blk_below HS1.out h58) ?_ ?_
    · intro w1 hb; exact term_Same.calls _ _ _ [a, b] _ _ _ [b, a] s w1 (Kd.C_below DP hb) (Nat.le_refl _) (Kd.C_below DQ hb) (Nat.le_refl _) FX.out.1
    · intro w1 hb; exact term_Same.calls _ _ _ a.f1 _ _ _ a.f1 true w1 (Kd.C_below D0 hb) hq0 (Kd.C_below D0 hb) hq0 FX.out.2.1
    · intro w1 hb; exact term_Same.calls _ _ _ [⟨999, []⟩, cloneT b] _ _ _ [a, b] _ w1 (Kd.C_below DC hb) HG2 (Kd.C_below DP hb) (Nat.le_refl _) FX.out.2.2.1
    · intro w1 hb; exact term_Same.calls _ _ _ a.f1 _ _ _ [] _ w1 (Kd.C_below D0 hb) hq0 (N w1) (Nat.le_refl _) FX.out.2.2.2.1
    · intro w1 hb; exact term_Same.calls _ _ _ [a] _ _ _ [] true w1 (Kd.C_below DV hb) (Nat.le_refl _) (N w1) (Nat.le_refl _) FX.out.2.2.2.2.1
    · intro w1 hb; exact (term_Places.calls _ _ _ [a] [[]] w1 (Kd.C_below DV hb) (Nat.le_refl _) FX.out.2.2.2.2.2.2.2.1).mono (fun e w2 ⟨v1, h1, h2, h3⟩ => ⟨v1, h1, Kd.R_slice h2, h3⟩)
    · intro w1 hb; exact term_Compare.calls _ _ _ [a, b] _ _ _ [b, a] _ w1 (Kd.C_below DP hb) (Nat.le_refl _) (Kd.C_below DQ hb) (Nat.le_refl _) FX.out.2.2.2.2.2.1
    · intro w1 g hb hg; exact term_Same.calls _ _ _ [a, b] _ _ _ [a] false w1 (Kd.C_below DP hb) (Nat.le_refl _) (C1 k30 rfl (K30 (Kd.C_below D0 hb) hq0) hg) (Nat.le_refl _) FX.out.2.2.2.2.2.2.1
    intro v w9 hb9 hv56
    simp only [layL, Nat.reduceAdd, List.setIfInBounds_toArray, List.set_cons_zero, List.set_cons_succ, hv56]
    clear hv56
    have hB9 : Below w.heap.size w w9 := (hB5.out.trans (h58.mono hB5.out.size)).trans (hb9.mono (Nat.le_trans hB5.out.size h58.size))
    have HB9 := Aside0.mk hB9
    clear hB9 hb9 h58 h78 hW7 hbx12 hbx13 hrow hsz7 hCc D0 D1 DP DQ DC DV N HW FX
    generalize v 0 = t0
    generalize v 1 = t1
    generalize v 2 = t2
    generalize v 3 = t3
    generalize v 4 = t4
    generalize v 5 = t5
    generalize v 6 = t6
    generalize v 7 = t7
    generalize v 8 = t8
    generalize v 9 = t9
    generalize v 10 = t10
    generalize v 11 = t11
    generalize v 12 = t12
    generalize v 13 = t13
    generalize v 14 = t14
    generalize v 15 = t15
    generalize v 16 = t16
    generalize v 17 = t17
    generalize v 18 = t18
    generalize v 19 = t19
    generalize v 20 = t20
    generalize v 21 = t21
    generalize v 22 = t22
    generalize v 23 = t23
    generalize v 24 = t24
    generalize v 25 = t25
    generalize v 26 = t26
    generalize v 27 = t27
    generalize v 28 = t28
    generalize v 29 = t29
    generalize v 30 = t30
    generalize v 31 = t31
    generalize v 32 = t32
    generalize v 33 = t33
    generalize v 34 = t34
    generalize v 35 = t35
    generalize v 36 = t36
    generalize v 37 = t37
    generalize v 38 = t38
    generalize v 39 = t39
    generalize v 40 = t40
    generalize v 41 = t41
    generalize v 42 = t42
    generalize v 43 = t43
    generalize v 44 = t44
    generalize v 45 = t45
    generalize v 46 = t46
    generalize v 47 = t47
    generalize v 48 = t48
    generalize v 49 = t49
    generalize v 50 = t50
    generalize v 51 = t51
    generalize v 52 = t52
    generalize v 53 = t53
    generalize v 54 = t54
    generalize v 55 = t55
    clear v
    go_wp2
    go_ret
    exact ⟨rfl, HB9.out⟩
end Go.Proofs.Ytpfddihcikiofaa.P
end

section
-- The row of the law TermSame, out of its walk (the text of the kit's printed rows, turned to arguments that are structs).
namespace Go.Proofs.Ytpfddihcikiofaa.termSame
open Go.ChangeShapes Go.WideShapes Go.ChangeAt Go.RowKit
set_option linter.unusedVariables false
theorem own : ownKnob Try.prog.godebug = none := by kernel_rfl
theorem laidOut : laidOutB Try.prog = true := by kernel_rfl
set_option maxRecDepth 100000 in
theorem lifted (os : Os) (started : os.Started) (H : Type) (enc : TypeId × Value → H) :
    ReturnsInHanded {} Try.checked os 6 .any (Rows.termSameSpec.pre6 enc Try.prog Try.f6 Rows.termSameRow.domain false) (Rows.termSameSpec.post enc Try.prog Try.f6 false true false false) := by
  refine returnsInHanded_of_change_sized (C := Try.checked) own started (by kernel_rfl) Try.func6
    (ChangeSpec.witness6 (enc := enc) (C := Try.checked) false ⟨#[], #[.agg #[.int .i64 0, .slice none 0 0], .agg #[.int .i64 0, .slice none 0 0], .int .u8 0], []⟩ 8 (by kernel_rfl) (by kernel_rfl) (by kernel_rfl) (by kernel_rfl)) ?_
  intro W base args ds gs before hval0 hW hcnd hsz0 _
  have hval : ∀ (j : Nat) t v, Try.f6.params[j]? = some t → args[j]? = some v → Value.okWide Try.prog W .any base t v := hval0
  have hW' := hW
  obtain ⟨p, q, hA0, hV, rfl, hfz, hnd⟩ := hW
  have hA : DataW.TrodAll enc Try.prog W 0 (fun _ => true) true Try.f6.params.toList args.toList ds p := hA0
  rw [Try.params6] at hA hval
  obtain ⟨v0, vs0, d0, ds0, p0, q0, hargs, rfl, rfl, h0, r0⟩ := trodAll_cons hA
  obtain ⟨v1, vs1, d1, ds1, p1, q1, rfl, rfl, rfl, h1, r1⟩ := trodAll_cons r0
  obtain ⟨v2, vs2, d2, ds2, p2, q2, rfl, rfl, rfl, h2, r2⟩ := trodAll_cons r1
  obtain ⟨rfl, rfl, rfl⟩ := trodAll_nil r2
  obtain rfl : args = #[v0, v1, v2] := by cases args; simp_all
  obtain ⟨rfl, rfl⟩ := trodVars_none hV
  have k0 := h0
  have lt0 : ∀ x ∈ p0, x.block < W.heap.size := by obtain ⟨m, hm⟩ := k0; exact DataW.trod_lt m _ _ _ hm
  obtain ⟨t0, A0, c0, rfl, hc0, hC0, hw0⟩ := P.open_T (hval 0 24 v0 rfl rfl) h0
  have k1 := h1
  have lt1 : ∀ x ∈ p1, x.block < W.heap.size := by obtain ⟨m, hm⟩ := k1; exact DataW.trod_lt m _ _ _ hm
  obtain ⟨t1, A1, c1, rfl, hc1, hC1, hw1⟩ := P.open_T (hval 1 24 v1 rfl rfl) h1
  obtain ⟨a2, rfl, rfl, rfl, w2⟩ := open_int Try.underlying5 (hval 2 5 v2 rfl rfl) h2
  clear hA0 hval0 hsz0
  refine (P.TermSame_walk t0 t1 a2 A0 c0 A1 c1 W (by have := w2; simp [Lit.wf, IntKind.min, IntKind.max, IntKind.signed, IntKind.bits] at this; omega) hC0 hc0 hC1 hc1).mono fun e W' ⟨he, bel⟩ => ?_
  subst he
  exact ⟨_, rfl, _, _, _, [], _, [], hW', trodAll_mk1 (shut_bool Try.underlying4 _), (trodAll_cons_mk (Below.trod laidOut (by kernel_rfl) (of_decide_eq_true (by kernel_rfl)) k0 bel lt0) (trodAll_cons_mk (Below.trod laidOut (by kernel_rfl) (of_decide_eq_true (by kernel_rfl)) k1 bel lt1) (trodAll_cons_mk (shut_int Try.underlying5 w2) trodAll_mk0))), rfl, bel.frame _, fun h => by cases h⟩
theorem over : Rows.termSameRow.holds Try.pinned (OpenSpec.ofChange Rows.termSameSpec) :=
  OpenClaim.holds_of_wide 6 Try.f6 rfl rfl rfl rfl rfl rfl rfl ⟨rfl, rfl, rfl, rfl, rfl⟩ rfl rfl rfl rfl rfl (by kernel_rfl) Try.func6 (by kernel_rfl)
    (of_decide_eq_true (by kernel_rfl)) (by unfold Func.isWrapper; first | (rw [if_pos (by decide +kernel)]; kernel_rfl) | (rw [if_neg (by decide +kernel)]; exact ⟨rfl, rfl⟩))
    (fun os started H enc _ => lifted os started H enc)
end Go.Proofs.Ytpfddihcikiofaa.termSame
namespace Go.Proofs.Ytpfddihcikiofaa
/-- The row, under a short name, for the claim. -/
theorem termSame_holds : Rows.TermSameSaid := termSame.over
#print axioms termSame_holds
end Go.Proofs.Ytpfddihcikiofaa
end
