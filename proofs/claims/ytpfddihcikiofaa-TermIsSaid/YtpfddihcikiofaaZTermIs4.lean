/- The law TermIs holds of every input. Part 4 of 5: PxSoritesref06Less, PxSoritesref06Flat, PxSoritesref06Vars, PxSoriteslaw06To, GSpec, GPut, GSpec10. -/
import Derived.Test.YtpfddihcikiofaaZTermIs2
import Derived.Test.YtpfddihcikiofaaZTermIs3
import Derived.Test.YtpfddihcikiofaaZTermIs1
section
namespace Go.Proofs.Ytpfddihcikiofaa.P
open Go.RowKit Go.Proofs.YtpfddihcikiofaaW.PrintWords Go.Proofs.YtpfddihcikiofaaW.PrintLast Go.Proofs.YtpfddihcikiofaaW.PrintMore
attribute [local go_sem] max2_int min2_int max_two min_two max_three min_three max_four min_four
set_option linter.unusedVariables false
set_option linter.unusedSimpArgs false
mutual
def soritesref06_Less.j0 : Nat → Bool → Int → List (S24) → Int → List (S24) → Option (Bool)
  | 0, _, _, _, _, _ => none
  | k + 1, x13, x343000, x343001, x344000, x344001 => if x13 = true then (some (decide (x343000 > x344000))) else (if x343000 = x344000 then (if (x343001.length : Int) = (x344001.length : Int) then (soritesref06_Less.l0 k 0 x343000 x343001 x344000 x344001) else (some (decide ((x343001.length : Int) < (x344001.length : Int))))) else (some (decide (x343000 < x344000))))
def soritesref06_Less.l0 : Nat → Int → Int → List (S24) → Int → List (S24) → Option (Bool)
  | 0, _, _, _, _, _ => none
  | k + 1, x5, x343000, x343001, x344000, x344001 => if x5 < (x343001.length : Int) then (if 0 ≤ x5 then (if x5 < (x344001.length : Int) then ((soritesref06_Same.f k ((rd_T24 x343001 x5).f0) ((rd_T24 x343001 x5).f1) ((rd_T24 x344001 x5).f0) ((rd_T24 x344001 x5).f1)).bind fun t346 => (if t346 = true then (soritesref06_Less.l0 k (wrap64 (x5 + 1)) x343000 x343001 x344000 x344001) else ((soritesref06_Less.f k ((rd_T24 x343001 x5).f0) ((rd_T24 x343001 x5).f1) ((rd_T24 x344001 x5).f0) ((rd_T24 x344001 x5).f1)).bind fun t349 => (some t349)))) else (none)) else (none)) else (some false)
def soritesref06_Less.f : Nat → Int → List (S24) → Int → List (S24) → Option (Bool)
  | 0, _, _, _, _ => none
  | k + 1, a0_0, l0_1, a1_0, l1_1 => if a0_0 < 0 then (soritesref06_Less.j0 k (decide (a1_0 < 0)) a0_0 l0_1 a1_0 l1_1) else (soritesref06_Less.j0 k false a0_0 l0_1 a1_0 l1_1)
end
def soritesref06_Less.T10 : Bool × List (List Nat × List Nat) := (true, [([], []), ([0], [0]), ([], []), ([1, 2], [1, 2]), ([3], [3]), ([], []), ([5], [5]), ([], []), ([6, 7], [6, 7]), ([8], [8]), ([4, 9], [4, 9]), ([10], [10])])
def soritesref06_Less.B10 : List Nat := [0, 1, 0, 7, 15, 0, 32, 0, 224, 480, 1023, 2047]
theorem soritesref06_Less.tab10 : rtab .any (opsOf Try.f47 10) = soritesref06_Less.T10 := by kernel_rfl
theorem soritesref06_Less.bits10 : waitsOk soritesref06_Less.T10.2 soritesref06_Less.B10 = true := by kernel_rfl
def soritesref06_Less.T11 : Bool × List (List Nat × List Nat) := (true, [([], []), ([0], [0]), ([], []), ([1, 2], [1, 2]), ([3], [3]), ([], []), ([5], [5]), ([], []), ([6, 7], [6, 7]), ([8], [8]), ([4, 9], [4, 9]), ([10, 10, 0, 1, 2, 3, 4, 5, 6, 7, 8, 9, 10], [10])])
def soritesref06_Less.B11 : List Nat := [0, 1, 0, 7, 15, 0, 32, 0, 224, 480, 1023, 2047]
theorem soritesref06_Less.tab11 : rtab .any (opsOf Try.f47 11) = soritesref06_Less.T11 := by kernel_rfl
theorem soritesref06_Less.bits11 : waitsOk soritesref06_Less.T11.2 soritesref06_Less.B11 = true := by kernel_rfl
set_option maxHeartbeats 8000000 in
set_option maxRecDepth 100000 in
theorem soritesref06_Less.calls (k : Nat) : ∀ (a0_0 : Int) (A0_1 : Option Addr) (c0_1 : Nat) (l0_1 : List (S24)) (a1_0 : Int) (A1_1 : Option Addr) (c1_1 : Nat) (l1_1 : List (S24)) (r : Bool) (w : World) (hr0_1 : Kd.C k24 w A0_1 l0_1.length l0_1) (hc0_1 : l0_1.length ≤ c0_1) (hr1_1 : Kd.C k24 w A1_1 l1_1.length l1_1) (hc1_1 : l1_1.length ≤ c1_1) (h : soritesref06_Less.f k a0_0 l0_1 a1_0 l1_1 = some r),
    Calls Try.prog 47 #[.agg #[.int .i64 a0_0, .slice A0_1 l0_1.length c0_1], .agg #[.int .i64 a1_0, .slice A1_1 l1_1.length c1_1]] w fun e w' => e = .returned (.bool r) ∧ Below w.heap.size w w' := by
  induction k using Nat.strongRecOn with
  | _ k ih =>
  intro a0_0 A0_1 c0_1 l0_1 a1_0 A1_1 c1_1 l1_1 r w hr0_1 hc0_1 hr1_1 hc1_1 h
  cases k with
  | zero => exact absurd h (by simp [soritesref06_Less.f])
  | succ k =>
  simp only [soritesref06_Less.f] at h
  have hu24 := Try.underlying24
  have HR0_1 := Aside0.mk hr0_1
  have HC0_1 := Aside0.mk hc0_1
  clear hr0_1 hc0_1
  have HR1_1 := Aside0.mk hr1_1
  have HC1_1 := Aside0.mk hc1_1
  clear hr1_1 hc1_1
  have HB := Aside0.mk (Below.refl w.heap.size w)
  have H : (if a0_0 < 0 then (soritesref06_Less.j0 k (decide (a1_0 < 0)) a0_0 l0_1 a1_0 l1_1) else (soritesref06_Less.j0 k false a0_0 l0_1 a1_0 l1_1)) = some r := h
  clear h
  have HC3 := Aside0.mk H
  clear H
  go_enter Try.func47, Try.ntmps47
  go_upto_region 1 with (first | ((with_reducible refine gate_dst (N := 2) rfl ?_); refine box_event ?hg (N := 2) ?hd (cs := #[.int .i64 a0_0, .slice A0_1 l0_1.length c0_1]) (t := 24) ?hr ?_; (case hd => rfl); (case hg => rfl); (case hr => first | (go_simp; done) | (go_simp; rfl)); intro gb342 hg w4 hbox hb; have n0_ := Aside0.mk (below_step (by repeat (first | (with_reducible first | exact HB.out | apply below_alloc | apply pw_below_drewN | apply below_drew1) | exact HB.out)) hb); have n1_ := Aside0.mk (hbox); have n2_ := Aside0.mk ((by rw [hg]; exact (below_size (by repeat (first | (with_reducible first | exact HB.out | apply below_alloc | apply pw_below_drewN | apply below_drew1) | exact HB.out))) : w.heap.size ≤ gb342)); have n3_ := Aside0.mk ((by rw [hg]; exact (below_size (by repeat (first | (with_reducible first | exact HB.out | apply below_alloc | apply pw_below_drewN | apply below_drew1) | exact HB.out))) : w.heap.size ≤ gb342)); clear HB; have HB := n0_; have BK342 := n1_; have GW342 := n2_; have GE342 := n3_; clear n0_ n1_ n2_ n3_; clear hb hbox hg) | ((with_reducible refine gate_dst (N := 3) rfl ?_); refine box_event ?hg (N := 3) ?hd (cs := #[.int .i64 a1_0, .slice A1_1 l1_1.length c1_1]) (t := 24) ?hr ?_; (case hd => rfl); (case hg => rfl); (case hr => first | (go_simp; done) | (go_simp; rfl)); intro gb343 hg w5 hbox hb; have n0_ := Aside0.mk (blk_below (g := gb342) (o := .cells #[.int .i64 a0_0, .slice A0_1 l0_1.length c0_1] 24 (0, 0)) (by (with_reducible repeat (first | refine blk_drewN ?_ _ | refine blk_drew ?_ | refine blk_alloc ?_ _)); exact BK342.out) hb); have n1_ := Aside0.mk (below_step (by repeat (first | (with_reducible first | exact HB.out | apply below_alloc | apply pw_below_drewN | apply below_drew1 | refine below_set ?_ GE342.out) | exact HB.out)) hb); have n2_ := Aside0.mk (hbox); have n3_ := Aside0.mk ((by rw [hg]; exact (below_size (by repeat (first | (with_reducible first | exact HB.out | apply below_alloc | apply pw_below_drewN | apply below_drew1 | refine below_set ?_ GE342.out) | exact HB.out))) : w.heap.size ≤ gb343)); have n4_ := Aside0.mk ((by rw [hg]; exact (below_size (by repeat (first | (with_reducible first | exact HB.out | apply below_alloc | apply pw_below_drewN | apply below_drew1 | refine below_set ?_ GE342.out) | exact HB.out))) : w.heap.size ≤ gb343)); have n5_ := Aside0.mk ((by rw [hg]; exact Nat.ne_of_lt (blk_lt (g := gb342) (o := .cells #[.int .i64 a0_0, .slice A0_1 l0_1.length c0_1] 24 (0, 0)) (by (with_reducible repeat (first | refine blk_drewN ?_ _ | refine blk_drew ?_ | refine blk_alloc ?_ _)); exact BK342.out)) : gb342 ≠ gb343)); have n6_ := Aside0.mk ((by rw [hg]; exact Nat.ne_of_gt (blk_lt (g := gb342) (o := .cells #[.int .i64 a0_0, .slice A0_1 l0_1.length c0_1] 24 (0, 0)) (by (with_reducible repeat (first | refine blk_drewN ?_ _ | refine blk_drew ?_ | refine blk_alloc ?_ _)); exact BK342.out)) : gb343 ≠ gb342)); clear BK342; clear HB; have BK342 := n0_; have HB := n1_; have BK343 := n2_; have GW343 := n3_; have GE343 := n4_; have NB342_343 := n5_; have NB343_342 := n6_; clear n0_ n1_ n2_ n3_ n4_ n5_ n6_; clear hb hbox hg))
  (try simp only [Act.put, List.setIfInBounds_toArray, List.set_cons_zero, List.set_cons_succ])
  go_cut [13] (fun v13 wc => ∃ (kq : Nat) (x13_2 : Bool), v13 = .bool x13_2 ∧ Aside0 (soritesref06_Less.j0 kq x13_2 a0_0 l0_1 a1_0 l1_1 = some r) ∧ Aside0 (kq ≤ k) ∧ Aside0 (wc.heap[gb342]? = some (.cells #[.int .i64 a0_0, (.slice A0_1 l0_1.length c0_1)] 24 (0, 0))) ∧ Aside0 (wc.heap[gb343]? = some (.cells #[.int .i64 a1_0, (.slice A1_1 l1_1.length c1_1)] 24 (0, 0))) ∧ Aside0 (Below w.heap.size w wc))
  case first =>
    have H := HC3.out
    clear HC3
    by_cases c6 : a0_0 < 0
    · rw [if_pos c6] at H
      have c6b0 : decide (a0_0 < 0) = true := decide_eq_true c6
      clear c6
      (first | rw [c6b0] | (simp only [i64_w, i32_w]; rw [c6b0]) | skip)
      have H' := Aside0.mk H
      clear H
      have hnb7 := NB342_343.out
      have hnc7 := NB343_342.out
      have hcz8_0 : w5.cell? ⟨gb342, 0, none⟩ = some (.int .i64 a0_0) := (blk_cell BK342.out 0).trans rfl
      have hcz8_1 : w5.cell? ⟨gb342, 1, none⟩ = some (.slice A0_1 l0_1.length c0_1) := (blk_cell BK342.out 1).trans rfl
      have hfz8_0 := blk_frozen BK342.out 0
      have hfz8_1 := blk_frozen BK342.out 1
      have hcz9_0 : w5.cell? ⟨gb343, 0, none⟩ = some (.int .i64 a1_0) := (blk_cell BK343.out 0).trans rfl
      have hcz9_1 : w5.cell? ⟨gb343, 1, none⟩ = some (.slice A1_1 l1_1.length c1_1) := (blk_cell BK343.out 1).trans rfl
      have hfz9_0 := blk_frozen BK343.out 0
      have hfz9_1 := blk_frozen BK343.out 1
      go_wp2
      go_meet
      case rel => exact ⟨_, (decide (a1_0 < 0)), (by first | rfl | (simp; done) | (simp [*]; done)), H', ⟨by first | omega | exact Nat.le_refl _⟩, ⟨by (with_reducible repeat (first | refine blk_drewN ?_ _ | refine blk_drew ?_ | refine blk_alloc ?_ _)); exact BK342.out⟩, ⟨by (with_reducible repeat (first | refine blk_drewN ?_ _ | refine blk_drew ?_ | refine blk_alloc ?_ _)); exact BK343.out⟩, ⟨by repeat (first | (with_reducible first | exact HB.out | apply below_alloc | apply pw_below_drewN | apply below_drew1 | refine below_set ?_ GE342.out | refine below_set ?_ GE343.out) | exact HB.out)⟩⟩
    · rw [if_neg c6] at H
      have c6b0 : decide (a0_0 < 0) = false := decide_eq_false c6
      clear c6
      (first | rw [c6b0] | (simp only [i64_w, i32_w]; rw [c6b0]) | skip)
      have H' := Aside0.mk H
      clear H
      have hnb10 := NB342_343.out
      have hnc10 := NB343_342.out
      have hcz11_0 : w5.cell? ⟨gb342, 0, none⟩ = some (.int .i64 a0_0) := (blk_cell BK342.out 0).trans rfl
      have hcz11_1 : w5.cell? ⟨gb342, 1, none⟩ = some (.slice A0_1 l0_1.length c0_1) := (blk_cell BK342.out 1).trans rfl
      have hfz11_0 := blk_frozen BK342.out 0
      have hfz11_1 := blk_frozen BK342.out 1
      go_wp2
      go_meet
      case rel => exact ⟨_, (false), (by first | rfl | (simp; done) | (simp [*]; done)), H', ⟨by first | omega | exact Nat.le_refl _⟩, ⟨by (with_reducible repeat (first | refine blk_drewN ?_ _ | refine blk_drew ?_ | refine blk_alloc ?_ _)); exact BK342.out⟩, ⟨by (with_reducible repeat (first | refine blk_drewN ?_ _ | refine blk_drew ?_ | refine blk_alloc ?_ _)); exact BK343.out⟩, ⟨by repeat (first | (with_reducible first | exact HB.out | apply below_alloc | apply pw_below_drewN | apply below_drew1 | refine below_set ?_ GE342.out | refine below_set ?_ GE343.out) | exact HB.out)⟩⟩
  case rest =>
    clear HC3
    try clear c1
    try clear p2
    try clear c4
    try clear c6
    try clear c6b0
    try clear c7
    try clear c10
    try clear hcz11_0
    try clear hcz11_1
    try clear hcz8_0
    try clear hcz8_1
    try clear hcz9_0
    try clear hcz9_1
    try clear hfz11_0
    try clear hfz11_1
    try clear hfz8_0
    try clear hfz8_1
    try clear hfz9_0
    try clear hfz9_1
    obtain ⟨kq, x13_2, rfl, HA, HJ2, BK342, BK343, HB⟩ := hcut
    cases kq with
    | zero => exact absurd HA.out (by simp [soritesref06_Less.j0])
    | succ kj2 =>
      have H := HA.out
      clear HA
      simp only [soritesref06_Less.j0] at H
      by_cases c12 : x13_2 = true
      · subst c12
        have H1 : (some (decide (a0_0 > a1_0))) = some r := by rw [if_pos rfl] at H; exact H
        clear H
        have H := H1
        clear H1
        obtain rfl := Option.some.inj H
        have hnb13 := NB342_343.out
        have hnc13 := NB343_342.out
        have hcz14_0 : wc.cell? ⟨gb342, 0, none⟩ = some (.int .i64 a0_0) := (blk_cell BK342.out 0).trans rfl
        have hcz14_1 : wc.cell? ⟨gb342, 1, none⟩ = some (.slice A0_1 l0_1.length c0_1) := (blk_cell BK342.out 1).trans rfl
        have hfz14_0 := blk_frozen BK342.out 0
        have hfz14_1 := blk_frozen BK342.out 1
        have hcz15_0 : wc.cell? ⟨gb343, 0, none⟩ = some (.int .i64 a1_0) := (blk_cell BK343.out 0).trans rfl
        have hcz15_1 : wc.cell? ⟨gb343, 1, none⟩ = some (.slice A1_1 l1_1.length c1_1) := (blk_cell BK343.out 1).trans rfl
        have hfz15_0 := blk_frozen BK343.out 0
        have hfz15_1 := blk_frozen BK343.out 1
        go_wp2
        go_ret
        exact ⟨by first | rfl | (simp [errW_none, errW_some] <;> rfl) | (simp [*, errW_none, errW_some] <;> rfl), by repeat (first | (with_reducible first | exact HB.out | apply below_alloc | apply pw_below_drewN | apply below_drew1 | refine below_set ?_ GE342.out | refine below_set ?_ GE343.out) | exact HB.out)⟩
      · replace c12 := Bool.eq_false_iff.mpr c12
        subst c12
        have H1 : (if a0_0 = a1_0 then (if (l0_1.length : Int) = (l1_1.length : Int) then (soritesref06_Less.l0 kj2 0 a0_0 l0_1 a1_0 l1_1) else (some (decide ((l0_1.length : Int) < (l1_1.length : Int))))) else (some (decide (a0_0 < a1_0)))) = some r := by rw [if_neg (show ¬ (false = true) by decide)] at H; exact H
        clear H
        have H := H1
        clear H1
        by_cases c16 : a0_0 = a1_0
        · rw [if_pos c16] at H
          have c16b0 : (a0_0 == a1_0) = true := beq_iff_eq.mpr c16
          have c16b1 : (a0_0 != a1_0) = false := bne_eq_false_iff_eq.mpr c16
          clear c16
          by_cases c17 : (l0_1.length : Int) = (l1_1.length : Int)
          · rw [if_pos c17] at H
            have c17b0 : ((l0_1.length : Int) == (l1_1.length : Int)) = true := beq_iff_eq.mpr c17
            have c17b1 : ((l0_1.length : Int) != (l1_1.length : Int)) = false := bne_eq_false_iff_eq.mpr c17
            have c17b2 : (l0_1.length == l1_1.length) = true := by first | simpa using c17 | (simp at c17 ⊢; omega)
            clear c17
            have H' := Aside0.mk H
            clear H
            have hnb18 := NB342_343.out
            have hnc18 := NB343_342.out
            have hcz19_0 : wc.cell? ⟨gb342, 0, none⟩ = some (.int .i64 a0_0) := (blk_cell BK342.out 0).trans rfl
            have hcz19_1 : wc.cell? ⟨gb342, 1, none⟩ = some (.slice A0_1 l0_1.length c0_1) := (blk_cell BK342.out 1).trans rfl
            have hfz19_0 := blk_frozen BK342.out 0
            have hfz19_1 := blk_frozen BK342.out 1
            have hcz20_0 : wc.cell? ⟨gb343, 0, none⟩ = some (.int .i64 a1_0) := (blk_cell BK343.out 0).trans rfl
            have hcz20_1 : wc.cell? ⟨gb343, 1, none⟩ = some (.slice A1_1 l1_1.length c1_1) := (blk_cell BK343.out 1).trans rfl
            have hfz20_0 := blk_frozen BK343.out 0
            have hfz20_1 := blk_frozen BK343.out 1
            go_wp2
            go_loopg [5] kj2 (fun kq v5 w' => ∃ (x5_2 : Int), v5 = .int .i64 x5_2 ∧ Aside0 (soritesref06_Less.l0 kq x5_2 a0_0 l0_1 a1_0 l1_1 = some r) ∧ Aside0 (kq ≤ kj2) ∧ Aside0 (w'.heap[gb342]? = some (.cells #[.int .i64 a0_0, (.slice A0_1 l0_1.length c0_1)] 24 (0, 0))) ∧ Aside0 (w'.heap[gb343]? = some (.cells #[.int .i64 a1_0, (.slice A1_1 l1_1.length c1_1)] 24 (0, 0))) ∧ Aside0 (Below w.heap.size w w'))
            case atStart => exact ⟨(0), (by first | rfl | (simp; done) | (simp [*]; done)), H', ⟨Nat.le_refl _⟩, ⟨by (with_reducible repeat (first | refine blk_drewN ?_ _ | refine blk_drew ?_ | refine blk_alloc ?_ _)); exact BK342.out⟩, ⟨by (with_reducible repeat (first | refine blk_drewN ?_ _ | refine blk_drew ?_ | refine blk_alloc ?_ _)); exact BK343.out⟩, ⟨by repeat (first | (with_reducible first | exact HB.out | apply below_alloc | apply pw_below_drewN | apply below_drew1 | refine below_set ?_ GE342.out | refine below_set ?_ GE343.out) | exact HB.out)⟩⟩
            case round =>
              clear H'
              try clear c1
              try clear p2
              try clear c4
              try clear c6
              try clear c6b0
              try clear c7
              try clear c10
              try clear c12
              try clear c13
              try clear c16
              try clear c16b0
              try clear c16b1
              try clear c17
              try clear c17b0
              try clear c17b1
              try clear c17b2
              try clear c18
              try clear hcz11_0
              try clear hcz11_1
              try clear hcz14_0
              try clear hcz14_1
              try clear hcz15_0
              try clear hcz15_1
              try clear hcz19_0
              try clear hcz19_1
              try clear hcz20_0
              try clear hcz20_1
              try clear hcz8_0
              try clear hcz8_1
              try clear hcz9_0
              try clear hcz9_1
              try clear hfz11_0
              try clear hfz11_1
              try clear hfz14_0
              try clear hfz14_1
              try clear hfz15_0
              try clear hfz15_1
              try clear hfz19_0
              try clear hfz19_1
              try clear hfz20_0
              try clear hfz20_1
              try clear hfz8_0
              try clear hfz8_1
              try clear hfz9_0
              try clear hfz9_1
              try clear p2
              obtain ⟨x5_2, rfl, HA, HK2, BK342, BK343, HB⟩ := hrel
              cases gk with
              | zero => exact absurd HA.out (by simp [soritesref06_Less.l0])
              | succ k2 =>
                have H := HA.out
                clear HA
                simp only [soritesref06_Less.l0] at H
                by_cases c21 : x5_2 < (l0_1.length : Int)
                · rw [if_pos c21] at H
                  have c21b0 : decide (x5_2 < (l0_1.length : Int)) = true := decide_eq_true c21
                  clear c21
                  by_cases c22 : 0 ≤ x5_2
                  · rw [if_pos c22] at H
                    have c22b0 : decide (0 ≤ x5_2) = true := decide_eq_true c22
                    clear c22
                    by_cases c23 : x5_2 < (l1_1.length : Int)
                    · rw [if_pos c23] at H
                      have c23b0 : decide (x5_2 < (l1_1.length : Int)) = true := decide_eq_true c23
                      clear c23
                      replace H := Option.bind_eq_some_iff.mp H
                      obtain ⟨t346, A240, H⟩ := H
                      replace H : (if t346 = true then (soritesref06_Less.l0 k2 (wrap64 (x5_2 + 1)) a0_0 l0_1 a1_0 l1_1) else ((soritesref06_Less.f k2 ((rd_T24 l0_1 x5_2).f0) ((rd_T24 l0_1 x5_2).f1) ((rd_T24 l1_1 x5_2).f0) ((rd_T24 l1_1 x5_2).f1)).bind fun t349 => (some t349))) = some r := H
                      have A24 := Aside0.mk A240
                      clear A240
                      by_cases c25 : t346 = true
                      · subst c25
                        have H1 : (soritesref06_Less.l0 k2 (wrap64 (x5_2 + 1)) a0_0 l0_1 a1_0 l1_1) = some r := by rw [if_pos rfl] at H; exact H
                        clear H
                        have H := H1
                        clear H1
                        have H' := Aside0.mk H
                        clear H
                        have hnb26 := NB342_343.out
                        have hnc26 := NB343_342.out
                        have hcz27_0 : wr.cell? ⟨gb342, 0, none⟩ = some (.int .i64 a0_0) := (blk_cell BK342.out 0).trans rfl
                        have hcz27_1 : wr.cell? ⟨gb342, 1, none⟩ = some (.slice A0_1 l0_1.length c0_1) := (blk_cell BK342.out 1).trans rfl
                        have hfz27_0 := blk_frozen BK342.out 0
                        have hfz27_1 := blk_frozen BK342.out 1
                        try go_wp2
                        have n0_ := Aside0.mk (blk_drew BK342.out)
                        have n1_ := Aside0.mk (blk_drew BK343.out)
                        have n2_ := Aside0.mk (below_drew1 HB.out)
                        clear BK342
                        clear BK343
                        clear HB
                        have BK342 := n0_
                        have BK343 := n1_
                        have HB := n2_
                        clear n0_ n1_ n2_
                        have p344 : 0 ≤ (x5_2 : Int) := of_decide_eq_true (by first | (with_reducible assumption) | assumption)
                        have q344 : x5_2 < (l0_1.length : Int) := of_decide_eq_true (by first | (with_reducible assumption) | assumption)
                        obtain ⟨ad344, A344_1, c344_1, e344, hx344_0, hx344_1, hl344_1, hi344_1⟩ := at_T24 HR0_1.out x5_2 p344 q344
                        have hw344_1 := hx344_1
                        have hw344_0 := hx344_0
                        cases e344
                        replace hx344_0 := (HB.out.cell (World.block_lt_of_cell? w _ hx344_0)).trans hx344_0
                        replace hx344_1 := (HB.out.cell (World.block_lt_of_cell? w _ hx344_1)).trans hx344_1
                        have HR344_1 := Aside0.mk hi344_1
                        have HC344_1 := Aside0.mk hl344_1
                        clear hi344_1 hl344_1
                        replace p344 := eq_true p344
                        replace q344 := eq_true q344
                        have p345 : 0 ≤ (x5_2 : Int) := of_decide_eq_true (by first | (with_reducible assumption) | assumption)
                        have q345 : x5_2 < (l1_1.length : Int) := of_decide_eq_true (by first | (with_reducible assumption) | assumption)
                        obtain ⟨ad345, A345_1, c345_1, e345, hx345_0, hx345_1, hl345_1, hi345_1⟩ := at_T24 HR1_1.out x5_2 p345 q345
                        have hw345_1 := hx345_1
                        have hw345_0 := hx345_0
                        cases e345
                        replace hx345_0 := (HB.out.cell (World.block_lt_of_cell? w _ hx345_0)).trans hx345_0
                        replace hx345_1 := (HB.out.cell (World.block_lt_of_cell? w _ hx345_1)).trans hx345_1
                        have HR345_1 := Aside0.mk hi345_1
                        have HC345_1 := Aside0.mk hl345_1
                        clear hi345_1 hl345_1
                        replace p345 := eq_true p345
                        replace q345 := eq_true q345
                        refine start_ (n := 12) (S := fun w' => w'.cell? ⟨gb342, 0, none⟩ = some (.int .i64 a0_0) ∧ w'.cell? ⟨gb342, 1, none⟩ = some (.slice (some ad344) l0_1.length c0_1) ∧ w'.cell? ⟨gb343, 0, none⟩ = some (.int .i64 a1_0) ∧ w'.cell? ⟨gb343, 1, none⟩ = some (.slice (some ad345) l1_1.length c1_1) ∧ w'.cell? (ad344.add ((x5_2).toNat * 2)) = some (.int .i64 ((rd_T24 l0_1 x5_2).f0)) ∧ w'.cell? ⟨(ad344.add ((x5_2).toNat * 2)).block, (ad344.add ((x5_2).toNat * 2)).off + 1, none⟩ = some (.slice A344_1 ((rd_T24 l0_1 x5_2).f1).length c344_1) ∧ w'.cell? (ad345.add ((x5_2).toNat * 2)) = some (.int .i64 ((rd_T24 l1_1 x5_2).f0)) ∧ w'.cell? ⟨(ad345.add ((x5_2).toNat * 2)).block, (ad345.add ((x5_2).toNat * 2)).off + 1, none⟩ = some (.slice A345_1 ((rd_T24 l1_1 x5_2).f1).length c345_1)) (ds := []) #[false, false, false, false, false, false, false, false, false, false, false, false] (by kernel_rfl) rfl rfl ⟨(blk_cell BK342.out 0).trans rfl, (blk_cell BK342.out 1).trans rfl, (blk_cell BK343.out 0).trans rfl, (blk_cell BK343.out 1).trans rfl, ((HB.out.cell (World.block_lt_of_cell? w _ hw344_0)).trans hw344_0), ((HB.out.cell (World.block_lt_of_cell? w _ hw344_1)).trans hw344_1), ((HB.out.cell (World.block_lt_of_cell? w _ hw345_0)).trans hw345_0), ((HB.out.cell (World.block_lt_of_cell? w _ hw345_1)).trans hw345_1)⟩ (fun hHeld => ?_); refine with_tabW soritesref06_Less.tab10 soritesref06_Less.bits10 (fun HT_ HW_ => ?_)
                        generalize wr.drew = w28 at BK342 BK343 HB HR344_1 HR345_1 hx344_0 hx344_1 hx345_0 hx345_1 hHeld ⊢
                        refine pure_ (i := 0) (N := some 50) (v := ?_) (a' := ?_) #[true, false, false, false, false, false, false, false, false, false, false, false] rfl rfl (any_of HT_.out (by kernel_rfl)) (fun _ _ _ h => h) (Or.inl ⟨by rfl, ?_⟩) ?_ ?_
                        rotate_left
                        · intro w'
                          go_simp
                          with_reducible rfl
                        rotate_left
                        · simp only [Act.put, List.setIfInBounds_toArray, List.set_cons_zero, List.set_cons_succ, i64_w, i32_w]
                          rfl
                        refine pure_ (i := 2) (N := some 52) (v := ?_) (a' := ?_) #[true, false, true, false, false, false, false, false, false, false, false, false] rfl rfl (any_of HT_.out (by kernel_rfl)) (fun _ _ _ h => h) (Or.inl ⟨by rfl, ?_⟩) ?_ ?_
                        rotate_left
                        · intro w'
                          go_simp
                          with_reducible rfl
                        rotate_left
                        · simp only [Act.put, List.setIfInBounds_toArray, List.set_cons_zero, List.set_cons_succ, i64_w, i32_w]
                          rfl
                        refine pure_ (i := 5) (N := some 55) (v := ?_) (a' := ?_) #[true, false, true, false, false, true, false, false, false, false, false, false] rfl rfl (any_of HT_.out (by kernel_rfl)) (fun _ _ _ h => h) (Or.inl ⟨by rfl, ?_⟩) ?_ ?_
                        rotate_left
                        · intro w'
                          go_simp
                          with_reducible rfl
                        rotate_left
                        · simp only [Act.put, List.setIfInBounds_toArray, List.set_cons_zero, List.set_cons_succ, i64_w, i32_w]
                          rfl
                        refine pure_ (i := 7) (N := some 57) (v := ?_) (a' := ?_) #[true, false, true, false, false, true, false, true, false, false, false, false] rfl rfl (any_of HT_.out (by kernel_rfl)) (fun _ _ _ h => h) (Or.inl ⟨by rfl, ?_⟩) ?_ ?_
                        rotate_left
                        · intro w'
                          go_simp
                          with_reducible rfl
                        rotate_left
                        · simp only [Act.put, List.setIfInBounds_toArray, List.set_cons_zero, List.set_cons_succ, i64_w, i32_w]
                          rfl
                        refine take_ (i := 1) (N := some 51) (v := ?_) (a' := ?_) #[true, true, true, false, false, true, false, true, false, false, false, false] rfl rfl (take_ofW HT_.out HW_.out (by kernel_rfl)) (fun _ _ _ h => h) (Or.inl ⟨by rfl, ?_⟩) hHeld ?_ ?_
                        rotate_left
                        · rintro w' ⟨s0, s1, s2, s3, s4, s5, s6, s7⟩
                          go_simp
                          with_reducible rfl
                        rotate_left
                        · simp only [Act.put, List.setIfInBounds_toArray, List.set_cons_zero, List.set_cons_succ, i64_w, i32_w]
                          rfl
                        refine pure_ (i := 3) (N := some 53) (v := ?_) (a' := ?_) #[true, true, true, true, false, true, false, true, false, false, false, false] rfl rfl (any_of HT_.out (by kernel_rfl)) (fun _ _ _ h => h) (Or.inl ⟨by rfl, ?_⟩) ?_ ?_
                        rotate_left
                        · intro w'
                          go_simp
                          with_reducible rfl
                        rotate_left
                        · simp only [Act.put, List.setIfInBounds_toArray, List.set_cons_zero, List.set_cons_succ, i64_w, i32_w]
                          rfl
                        refine take_ (i := 4) (N := some 54) (v := ?_) (a' := ?_) #[true, true, true, true, true, true, false, true, false, false, false, false] rfl rfl (take_ofW HT_.out HW_.out (by kernel_rfl)) (fun _ _ _ h => h) (Or.inl ⟨by rfl, ?_⟩) hHeld ?_ ?_
                        rotate_left
                        · rintro w' ⟨s0, s1, s2, s3, s4, s5, s6, s7⟩
                          go_simp
                          with_reducible rfl
                        rotate_left
                        · simp only [Act.put, List.setIfInBounds_toArray, List.set_cons_zero, List.set_cons_succ, i64_w, i32_w]
                          rfl
                        refine take_ (i := 6) (N := some 56) (v := ?_) (a' := ?_) #[true, true, true, true, true, true, true, true, false, false, false, false] rfl rfl (take_ofW HT_.out HW_.out (by kernel_rfl)) (fun _ _ _ h => h) (Or.inl ⟨by rfl, ?_⟩) hHeld ?_ ?_
                        rotate_left
                        · rintro w' ⟨s0, s1, s2, s3, s4, s5, s6, s7⟩
                          go_simp
                          with_reducible rfl
                        rotate_left
                        · simp only [Act.put, List.setIfInBounds_toArray, List.set_cons_zero, List.set_cons_succ, i64_w, i32_w]
                          rfl
                        refine pure_ (i := 8) (N := some 58) (v := ?_) (a' := ?_) #[true, true, true, true, true, true, true, true, true, false, false, false] rfl rfl (any_of HT_.out (by kernel_rfl)) (fun _ _ _ h => h) (Or.inl ⟨by rfl, ?_⟩) ?_ ?_
                        rotate_left
                        · intro w'
                          go_simp
                          with_reducible rfl
                        rotate_left
                        · simp only [Act.put, List.setIfInBounds_toArray, List.set_cons_zero, List.set_cons_succ, i64_w, i32_w]
                          rfl
                        refine take_ (i := 9) (N := some 59) (v := ?_) (a' := ?_) #[true, true, true, true, true, true, true, true, true, true, false, false] rfl rfl (take_ofW HT_.out HW_.out (by kernel_rfl)) (fun _ _ _ h => h) (Or.inl ⟨by rfl, ?_⟩) hHeld ?_ ?_
                        rotate_left
                        · rintro w' ⟨s0, s1, s2, s3, s4, s5, s6, s7⟩
                          go_simp
                          with_reducible rfl
                        rotate_left
                        · simp only [Act.put, List.setIfInBounds_toArray, List.set_cons_zero, List.set_cons_succ, i64_w, i32_w]
                          rfl
                        refine one_ (i := 10) (N := some 60) #[true, true, true, true, true, true, true, true, true, true, true, false] rfl rfl (one_of HT_.out (by kernel_rfl)) (by decide) (fun K hK => ?_)
                        refine goes_ Try.func28 (by kernel_rfl) rfl #[.agg #[.int .i64 ((rd_T24 l0_1 x5_2).f0), .slice A344_1 ((rd_T24 l0_1 x5_2).f1).length c344_1], .agg #[.int .i64 ((rd_T24 l1_1 x5_2).f0), .slice A345_1 ((rd_T24 l1_1 x5_2).f1).length c345_1]] (by rfl) rfl rfl (by (try simp only [List.map_toArray, List.map_cons, List.map_nil]); first | done | rfl | (simp only [List.length_drop, List.length_take]; rfl)) ?_
                        with_reducible refine (soritesref06_Same.calls k2 ((rd_T24 l0_1 x5_2).f0) _ _ ((rd_T24 l0_1 x5_2).f1) ((rd_T24 l1_1 x5_2).f0) _ _ ((rd_T24 l1_1 x5_2).f1) true _ ?side1 ?side2 ?side3 ?side4 A24.out).mono ?_
                        (case side1 => repeat (first | exact (Kd.C_below HR344_1.out HB.out) | (with_reducible refine Kd.C_alloc ?_ _) | (with_reducible refine Kd.C_drewN ?_ _) | (with_reducible refine Kd.C_drew ?_)))
                        (case side2 => exact HC344_1.out)
                        (case side3 => repeat (first | exact (Kd.C_below HR345_1.out HB.out) | (with_reducible refine Kd.C_alloc ?_ _) | (with_reducible refine Kd.C_drewN ?_ _) | (with_reducible refine Kd.C_drew ?_)))
                        (case side4 => exact HC345_1.out)
                        rintro e w29 ⟨rfl, hb⟩
                        refine ⟨_, rfl, ?_⟩
                        have n0_ := Aside0.mk (blk_below (g := gb342) (o := .cells #[.int .i64 a0_0, .slice (some ad344) l0_1.length c0_1] 24 (0, 0)) (by (with_reducible repeat (first | refine blk_drewN ?_ _ | refine blk_drew ?_ | refine blk_alloc ?_ _)); exact BK342.out) hb)
                        have n1_ := Aside0.mk (blk_below (g := gb343) (o := .cells #[.int .i64 a1_0, .slice (some ad345) l1_1.length c1_1] 24 (0, 0)) (by (with_reducible repeat (first | refine blk_drewN ?_ _ | refine blk_drew ?_ | refine blk_alloc ?_ _)); exact BK343.out) hb)
                        have n2_ := Aside0.mk (below_step (by repeat (first | (with_reducible first | exact HB.out | apply below_alloc | apply pw_below_drewN | apply below_drew1 | refine below_set ?_ GE342.out | refine below_set ?_ GE343.out) | exact HB.out)) hb)
                        clear BK342
                        clear BK343
                        clear HB
                        have BK342 := n0_
                        have BK343 := n1_
                        have HB := n2_
                        clear n0_ n1_ n2_
                        (try clear hb)
                        (try clear hb2)
                        (try clear hk)
                        (try clear hi)
                        refine hK.out _ _ ⟨(blk_cell BK342.out 0).trans rfl, (blk_cell BK342.out 1).trans rfl, (blk_cell BK343.out 0).trans rfl, (blk_cell BK343.out 1).trans rfl, ((HB.out.cell (World.block_lt_of_cell? w _ hw344_0)).trans hw344_0), ((HB.out.cell (World.block_lt_of_cell? w _ hw344_1)).trans hw344_1), ((HB.out.cell (World.block_lt_of_cell? w _ hw345_0)).trans hw345_0), ((HB.out.cell (World.block_lt_of_cell? w _ hw345_1)).trans hw345_1)⟩ (fun hHeld => ?_)
                        clear hK K
                        refine norm_ (a' := ?_) ?_ ?_
                        rotate_left
                        · show Act.put _ (some 60) _ = _
                          simp only [Act.put, List.setIfInBounds_toArray, List.set_cons_zero, List.set_cons_succ, i64_w, i32_w]
                          rfl
                        refine pure_ (i := 11) (N := some 61) (v := ?_) (a' := ?_) #[true, true, true, true, true, true, true, true, true, true, true, true] rfl rfl (any_of HT_.out (by kernel_rfl)) (fun _ _ _ h => h) (Or.inl ⟨by rfl, ?_⟩) ?_ ?_
                        rotate_left
                        · intro w'
                          go_simp
                          with_reducible rfl
                        rotate_left
                        · simp only [Act.put, List.setIfInBounds_toArray, List.set_cons_zero, List.set_cons_succ, i64_w, i32_w]
                          rfl
                        refine done_ (done_of HT_.out (by kernel_rfl)) ?_
                        try go_wp2
                        go_roundg k2
                        case measure => have := HJ2.out; have := HK2.out; omega
                        case rel => exact ⟨(wrap64 (x5_2 + 1)), (by first | rfl | (simp; done) | (simp [*]; done)), H', ⟨by have := HJ2.out; have := HK2.out; omega⟩, ⟨by (with_reducible repeat (first | refine blk_drewN ?_ _ | refine blk_drew ?_ | refine blk_alloc ?_ _)); exact BK342.out⟩, ⟨by (with_reducible repeat (first | refine blk_drewN ?_ _ | refine blk_drew ?_ | refine blk_alloc ?_ _)); exact BK343.out⟩, ⟨by repeat (first | (with_reducible first | exact HB.out | apply below_alloc | apply pw_below_drewN | apply below_drew1 | refine below_set ?_ GE342.out | refine below_set ?_ GE343.out) | exact HB.out)⟩⟩
                      · replace c25 := Bool.eq_false_iff.mpr c25
                        subst c25
                        have H1 : ((soritesref06_Less.f k2 ((rd_T24 l0_1 x5_2).f0) ((rd_T24 l0_1 x5_2).f1) ((rd_T24 l1_1 x5_2).f0) ((rd_T24 l1_1 x5_2).f1)).bind fun t349 => (some t349)) = some r := by rw [if_neg (show ¬ (false = true) by decide)] at H; exact H
                        clear H
                        have H := H1
                        clear H1
                        replace H := Option.bind_eq_some_iff.mp H
                        obtain ⟨t349, A300, H⟩ := H
                        replace H : (some t349) = some r := H
                        have A30 := Aside0.mk A300
                        clear A300
                        obtain rfl := Option.some.inj H
                        have hnb31 := NB342_343.out
                        have hnc31 := NB343_342.out
                        have hcz32_0 : wr.cell? ⟨gb342, 0, none⟩ = some (.int .i64 a0_0) := (blk_cell BK342.out 0).trans rfl
                        have hcz32_1 : wr.cell? ⟨gb342, 1, none⟩ = some (.slice A0_1 l0_1.length c0_1) := (blk_cell BK342.out 1).trans rfl
                        have hfz32_0 := blk_frozen BK342.out 0
                        have hfz32_1 := blk_frozen BK342.out 1
                        try go_wp2
                        have n0_ := Aside0.mk (blk_drew BK342.out)
                        have n1_ := Aside0.mk (blk_drew BK343.out)
                        have n2_ := Aside0.mk (below_drew1 HB.out)
                        clear BK342
                        clear BK343
                        clear HB
                        have BK342 := n0_
                        have BK343 := n1_
                        have HB := n2_
                        clear n0_ n1_ n2_
                        have p344 : 0 ≤ (x5_2 : Int) := of_decide_eq_true (by first | (with_reducible assumption) | assumption)
                        have q344 : x5_2 < (l0_1.length : Int) := of_decide_eq_true (by first | (with_reducible assumption) | assumption)
                        obtain ⟨ad344, A344_1, c344_1, e344, hx344_0, hx344_1, hl344_1, hi344_1⟩ := at_T24 HR0_1.out x5_2 p344 q344
                        have hw344_1 := hx344_1
                        have hw344_0 := hx344_0
                        cases e344
                        replace hx344_0 := (HB.out.cell (World.block_lt_of_cell? w _ hx344_0)).trans hx344_0
                        replace hx344_1 := (HB.out.cell (World.block_lt_of_cell? w _ hx344_1)).trans hx344_1
                        have HR344_1 := Aside0.mk hi344_1
                        have HC344_1 := Aside0.mk hl344_1
                        clear hi344_1 hl344_1
                        replace p344 := eq_true p344
                        replace q344 := eq_true q344
                        have p345 : 0 ≤ (x5_2 : Int) := of_decide_eq_true (by first | (with_reducible assumption) | assumption)
                        have q345 : x5_2 < (l1_1.length : Int) := of_decide_eq_true (by first | (with_reducible assumption) | assumption)
                        obtain ⟨ad345, A345_1, c345_1, e345, hx345_0, hx345_1, hl345_1, hi345_1⟩ := at_T24 HR1_1.out x5_2 p345 q345
                        have hw345_1 := hx345_1
                        have hw345_0 := hx345_0
                        cases e345
                        replace hx345_0 := (HB.out.cell (World.block_lt_of_cell? w _ hx345_0)).trans hx345_0
                        replace hx345_1 := (HB.out.cell (World.block_lt_of_cell? w _ hx345_1)).trans hx345_1
                        have HR345_1 := Aside0.mk hi345_1
                        have HC345_1 := Aside0.mk hl345_1
                        clear hi345_1 hl345_1
                        replace p345 := eq_true p345
                        replace q345 := eq_true q345
                        refine start_ (n := 12) (S := fun w' => w'.cell? ⟨gb342, 0, none⟩ = some (.int .i64 a0_0) ∧ w'.cell? ⟨gb342, 1, none⟩ = some (.slice (some ad344) l0_1.length c0_1) ∧ w'.cell? ⟨gb343, 0, none⟩ = some (.int .i64 a1_0) ∧ w'.cell? ⟨gb343, 1, none⟩ = some (.slice (some ad345) l1_1.length c1_1) ∧ w'.cell? (ad344.add ((x5_2).toNat * 2)) = some (.int .i64 ((rd_T24 l0_1 x5_2).f0)) ∧ w'.cell? ⟨(ad344.add ((x5_2).toNat * 2)).block, (ad344.add ((x5_2).toNat * 2)).off + 1, none⟩ = some (.slice A344_1 ((rd_T24 l0_1 x5_2).f1).length c344_1) ∧ w'.cell? (ad345.add ((x5_2).toNat * 2)) = some (.int .i64 ((rd_T24 l1_1 x5_2).f0)) ∧ w'.cell? ⟨(ad345.add ((x5_2).toNat * 2)).block, (ad345.add ((x5_2).toNat * 2)).off + 1, none⟩ = some (.slice A345_1 ((rd_T24 l1_1 x5_2).f1).length c345_1)) (ds := []) #[false, false, false, false, false, false, false, false, false, false, false, false] (by kernel_rfl) rfl rfl ⟨(blk_cell BK342.out 0).trans rfl, (blk_cell BK342.out 1).trans rfl, (blk_cell BK343.out 0).trans rfl, (blk_cell BK343.out 1).trans rfl, ((HB.out.cell (World.block_lt_of_cell? w _ hw344_0)).trans hw344_0), ((HB.out.cell (World.block_lt_of_cell? w _ hw344_1)).trans hw344_1), ((HB.out.cell (World.block_lt_of_cell? w _ hw345_0)).trans hw345_0), ((HB.out.cell (World.block_lt_of_cell? w _ hw345_1)).trans hw345_1)⟩ (fun hHeld => ?_); refine with_tabW soritesref06_Less.tab10 soritesref06_Less.bits10 (fun HT_ HW_ => ?_)
                        generalize wr.drew = w33 at BK342 BK343 HB HR344_1 HR345_1 hx344_0 hx344_1 hx345_0 hx345_1 hHeld ⊢
                        refine pure_ (i := 0) (N := some 50) (v := ?_) (a' := ?_) #[true, false, false, false, false, false, false, false, false, false, false, false] rfl rfl (any_of HT_.out (by kernel_rfl)) (fun _ _ _ h => h) (Or.inl ⟨by rfl, ?_⟩) ?_ ?_
                        rotate_left
                        · intro w'
                          go_simp
                          with_reducible rfl
                        rotate_left
                        · simp only [Act.put, List.setIfInBounds_toArray, List.set_cons_zero, List.set_cons_succ, i64_w, i32_w]
                          rfl
                        refine pure_ (i := 2) (N := some 52) (v := ?_) (a' := ?_) #[true, false, true, false, false, false, false, false, false, false, false, false] rfl rfl (any_of HT_.out (by kernel_rfl)) (fun _ _ _ h => h) (Or.inl ⟨by rfl, ?_⟩) ?_ ?_
                        rotate_left
                        · intro w'
                          go_simp
                          with_reducible rfl
                        rotate_left
                        · simp only [Act.put, List.setIfInBounds_toArray, List.set_cons_zero, List.set_cons_succ, i64_w, i32_w]
                          rfl
                        refine pure_ (i := 5) (N := some 55) (v := ?_) (a' := ?_) #[true, false, true, false, false, true, false, false, false, false, false, false] rfl rfl (any_of HT_.out (by kernel_rfl)) (fun _ _ _ h => h) (Or.inl ⟨by rfl, ?_⟩) ?_ ?_
                        rotate_left
                        · intro w'
                          go_simp
                          with_reducible rfl
                        rotate_left
                        · simp only [Act.put, List.setIfInBounds_toArray, List.set_cons_zero, List.set_cons_succ, i64_w, i32_w]
                          rfl
                        refine pure_ (i := 7) (N := some 57) (v := ?_) (a' := ?_) #[true, false, true, false, false, true, false, true, false, false, false, false] rfl rfl (any_of HT_.out (by kernel_rfl)) (fun _ _ _ h => h) (Or.inl ⟨by rfl, ?_⟩) ?_ ?_
                        rotate_left
                        · intro w'
                          go_simp
                          with_reducible rfl
                        rotate_left
                        · simp only [Act.put, List.setIfInBounds_toArray, List.set_cons_zero, List.set_cons_succ, i64_w, i32_w]
                          rfl
                        refine take_ (i := 1) (N := some 51) (v := ?_) (a' := ?_) #[true, true, true, false, false, true, false, true, false, false, false, false] rfl rfl (take_ofW HT_.out HW_.out (by kernel_rfl)) (fun _ _ _ h => h) (Or.inl ⟨by rfl, ?_⟩) hHeld ?_ ?_
                        rotate_left
                        · rintro w' ⟨s0, s1, s2, s3, s4, s5, s6, s7⟩
                          go_simp
                          with_reducible rfl
                        rotate_left
                        · simp only [Act.put, List.setIfInBounds_toArray, List.set_cons_zero, List.set_cons_succ, i64_w, i32_w]
                          rfl
                        refine pure_ (i := 3) (N := some 53) (v := ?_) (a' := ?_) #[true, true, true, true, false, true, false, true, false, false, false, false] rfl rfl (any_of HT_.out (by kernel_rfl)) (fun _ _ _ h => h) (Or.inl ⟨by rfl, ?_⟩) ?_ ?_
                        rotate_left
                        · intro w'
                          go_simp
                          with_reducible rfl
                        rotate_left
                        · simp only [Act.put, List.setIfInBounds_toArray, List.set_cons_zero, List.set_cons_succ, i64_w, i32_w]
                          rfl
                        refine take_ (i := 4) (N := some 54) (v := ?_) (a' := ?_) #[true, true, true, true, true, true, false, true, false, false, false, false] rfl rfl (take_ofW HT_.out HW_.out (by kernel_rfl)) (fun _ _ _ h => h) (Or.inl ⟨by rfl, ?_⟩) hHeld ?_ ?_
                        rotate_left
                        · rintro w' ⟨s0, s1, s2, s3, s4, s5, s6, s7⟩
                          go_simp
                          with_reducible rfl
                        rotate_left
                        · simp only [Act.put, List.setIfInBounds_toArray, List.set_cons_zero, List.set_cons_succ, i64_w, i32_w]
                          rfl
                        refine take_ (i := 6) (N := some 56) (v := ?_) (a' := ?_) #[true, true, true, true, true, true, true, true, false, false, false, false] rfl rfl (take_ofW HT_.out HW_.out (by kernel_rfl)) (fun _ _ _ h => h) (Or.inl ⟨by rfl, ?_⟩) hHeld ?_ ?_
                        rotate_left
                        · rintro w' ⟨s0, s1, s2, s3, s4, s5, s6, s7⟩
                          go_simp
                          with_reducible rfl
                        rotate_left
                        · simp only [Act.put, List.setIfInBounds_toArray, List.set_cons_zero, List.set_cons_succ, i64_w, i32_w]
                          rfl
                        refine pure_ (i := 8) (N := some 58) (v := ?_) (a' := ?_) #[true, true, true, true, true, true, true, true, true, false, false, false] rfl rfl (any_of HT_.out (by kernel_rfl)) (fun _ _ _ h => h) (Or.inl ⟨by rfl, ?_⟩) ?_ ?_
                        rotate_left
                        · intro w'
                          go_simp
                          with_reducible rfl
                        rotate_left
                        · simp only [Act.put, List.setIfInBounds_toArray, List.set_cons_zero, List.set_cons_succ, i64_w, i32_w]
                          rfl
                        refine take_ (i := 9) (N := some 59) (v := ?_) (a' := ?_) #[true, true, true, true, true, true, true, true, true, true, false, false] rfl rfl (take_ofW HT_.out HW_.out (by kernel_rfl)) (fun _ _ _ h => h) (Or.inl ⟨by rfl, ?_⟩) hHeld ?_ ?_
                        rotate_left
                        · rintro w' ⟨s0, s1, s2, s3, s4, s5, s6, s7⟩
                          go_simp
                          with_reducible rfl
                        rotate_left
                        · simp only [Act.put, List.setIfInBounds_toArray, List.set_cons_zero, List.set_cons_succ, i64_w, i32_w]
                          rfl
                        refine one_ (i := 10) (N := some 60) #[true, true, true, true, true, true, true, true, true, true, true, false] rfl rfl (one_of HT_.out (by kernel_rfl)) (by decide) (fun K hK => ?_)
                        refine goes_ Try.func28 (by kernel_rfl) rfl #[.agg #[.int .i64 ((rd_T24 l0_1 x5_2).f0), .slice A344_1 ((rd_T24 l0_1 x5_2).f1).length c344_1], .agg #[.int .i64 ((rd_T24 l1_1 x5_2).f0), .slice A345_1 ((rd_T24 l1_1 x5_2).f1).length c345_1]] (by rfl) rfl rfl (by (try simp only [List.map_toArray, List.map_cons, List.map_nil]); first | done | rfl | (simp only [List.length_drop, List.length_take]; rfl)) ?_
                        with_reducible refine (soritesref06_Same.calls k2 ((rd_T24 l0_1 x5_2).f0) _ _ ((rd_T24 l0_1 x5_2).f1) ((rd_T24 l1_1 x5_2).f0) _ _ ((rd_T24 l1_1 x5_2).f1) false _ ?side1 ?side2 ?side3 ?side4 A24.out).mono ?_
                        (case side1 => repeat (first | exact (Kd.C_below HR344_1.out HB.out) | (with_reducible refine Kd.C_alloc ?_ _) | (with_reducible refine Kd.C_drewN ?_ _) | (with_reducible refine Kd.C_drew ?_)))
                        (case side2 => exact HC344_1.out)
                        (case side3 => repeat (first | exact (Kd.C_below HR345_1.out HB.out) | (with_reducible refine Kd.C_alloc ?_ _) | (with_reducible refine Kd.C_drewN ?_ _) | (with_reducible refine Kd.C_drew ?_)))
                        (case side4 => exact HC345_1.out)
                        rintro e w34 ⟨rfl, hb⟩
                        refine ⟨_, rfl, ?_⟩
                        have n0_ := Aside0.mk (blk_below (g := gb342) (o := .cells #[.int .i64 a0_0, .slice (some ad344) l0_1.length c0_1] 24 (0, 0)) (by (with_reducible repeat (first | refine blk_drewN ?_ _ | refine blk_drew ?_ | refine blk_alloc ?_ _)); exact BK342.out) hb)
                        have n1_ := Aside0.mk (blk_below (g := gb343) (o := .cells #[.int .i64 a1_0, .slice (some ad345) l1_1.length c1_1] 24 (0, 0)) (by (with_reducible repeat (first | refine blk_drewN ?_ _ | refine blk_drew ?_ | refine blk_alloc ?_ _)); exact BK343.out) hb)
                        have n2_ := Aside0.mk (below_step (by repeat (first | (with_reducible first | exact HB.out | apply below_alloc | apply pw_below_drewN | apply below_drew1 | refine below_set ?_ GE342.out | refine below_set ?_ GE343.out) | exact HB.out)) hb)
                        clear BK342
                        clear BK343
                        clear HB
                        have BK342 := n0_
                        have BK343 := n1_
                        have HB := n2_
                        clear n0_ n1_ n2_
                        (try clear hb)
                        (try clear hb2)
                        (try clear hk)
                        (try clear hi)
                        refine hK.out _ _ ⟨(blk_cell BK342.out 0).trans rfl, (blk_cell BK342.out 1).trans rfl, (blk_cell BK343.out 0).trans rfl, (blk_cell BK343.out 1).trans rfl, ((HB.out.cell (World.block_lt_of_cell? w _ hw344_0)).trans hw344_0), ((HB.out.cell (World.block_lt_of_cell? w _ hw344_1)).trans hw344_1), ((HB.out.cell (World.block_lt_of_cell? w _ hw345_0)).trans hw345_0), ((HB.out.cell (World.block_lt_of_cell? w _ hw345_1)).trans hw345_1)⟩ (fun hHeld => ?_)
                        clear hK K
                        refine norm_ (a' := ?_) ?_ ?_
                        rotate_left
                        · show Act.put _ (some 60) _ = _
                          simp only [Act.put, List.setIfInBounds_toArray, List.set_cons_zero, List.set_cons_succ, i64_w, i32_w]
                          rfl
                        refine pure_ (i := 11) (N := some 61) (v := ?_) (a' := ?_) #[true, true, true, true, true, true, true, true, true, true, true, true] rfl rfl (any_of HT_.out (by kernel_rfl)) (fun _ _ _ h => h) (Or.inl ⟨by rfl, ?_⟩) ?_ ?_
                        rotate_left
                        · intro w'
                          go_simp
                          with_reducible rfl
                        rotate_left
                        · simp only [Act.put, List.setIfInBounds_toArray, List.set_cons_zero, List.set_cons_succ, i64_w, i32_w]
                          rfl
                        refine done_ (done_of HT_.out (by kernel_rfl)) ?_
                        try go_wp2
                        have n0_ := Aside0.mk (blk_drew BK342.out)
                        have n1_ := Aside0.mk (blk_drew BK343.out)
                        have n2_ := Aside0.mk (below_drew1 HB.out)
                        clear BK342
                        clear BK343
                        clear HB
                        have BK342 := n0_
                        have BK343 := n1_
                        have HB := n2_
                        clear n0_ n1_ n2_
                        have p347 : 0 ≤ (x5_2 : Int) := of_decide_eq_true (by first | (with_reducible assumption) | assumption)
                        have q347 : x5_2 < (l0_1.length : Int) := of_decide_eq_true (by first | (with_reducible assumption) | assumption)
                        obtain ⟨ad347, A347_1, c347_1, e347, hx347_0, hx347_1, hl347_1, hi347_1⟩ := at_T24 HR0_1.out x5_2 p347 q347
                        have hw347_1 := hx347_1
                        have hw347_0 := hx347_0
                        obtain rfl : ad344 = ad347 := (by injection e347)
                        replace hx347_0 := (HB.out.cell (World.block_lt_of_cell? w _ hx347_0)).trans hx347_0
                        replace hx347_1 := (HB.out.cell (World.block_lt_of_cell? w _ hx347_1)).trans hx347_1
                        have HR347_1 := Aside0.mk hi347_1
                        have HC347_1 := Aside0.mk hl347_1
                        clear hi347_1 hl347_1
                        replace p347 := eq_true p347
                        replace q347 := eq_true q347
                        have p348 : 0 ≤ (x5_2 : Int) := of_decide_eq_true (by first | (with_reducible assumption) | assumption)
                        have q348 : x5_2 < (l1_1.length : Int) := of_decide_eq_true (by first | (with_reducible assumption) | assumption)
                        obtain ⟨ad348, A348_1, c348_1, e348, hx348_0, hx348_1, hl348_1, hi348_1⟩ := at_T24 HR1_1.out x5_2 p348 q348
                        have hw348_1 := hx348_1
                        have hw348_0 := hx348_0
                        obtain rfl : ad345 = ad348 := (by injection e348)
                        replace hx348_0 := (HB.out.cell (World.block_lt_of_cell? w _ hx348_0)).trans hx348_0
                        replace hx348_1 := (HB.out.cell (World.block_lt_of_cell? w _ hx348_1)).trans hx348_1
                        have HR348_1 := Aside0.mk hi348_1
                        have HC348_1 := Aside0.mk hl348_1
                        clear hi348_1 hl348_1
                        replace p348 := eq_true p348
                        replace q348 := eq_true q348
                        refine start_ (n := 12) (S := fun w' => w'.cell? ⟨gb342, 0, none⟩ = some (.int .i64 a0_0) ∧ w'.cell? ⟨gb342, 1, none⟩ = some (.slice (some ad344) l0_1.length c0_1) ∧ w'.cell? ⟨gb343, 0, none⟩ = some (.int .i64 a1_0) ∧ w'.cell? ⟨gb343, 1, none⟩ = some (.slice (some ad345) l1_1.length c1_1) ∧ w'.cell? (ad344.add ((x5_2).toNat * 2)) = some (.int .i64 ((rd_T24 l0_1 x5_2).f0)) ∧ w'.cell? ⟨(ad344.add ((x5_2).toNat * 2)).block, (ad344.add ((x5_2).toNat * 2)).off + 1, none⟩ = some (.slice A347_1 ((rd_T24 l0_1 x5_2).f1).length c347_1) ∧ w'.cell? (ad345.add ((x5_2).toNat * 2)) = some (.int .i64 ((rd_T24 l1_1 x5_2).f0)) ∧ w'.cell? ⟨(ad345.add ((x5_2).toNat * 2)).block, (ad345.add ((x5_2).toNat * 2)).off + 1, none⟩ = some (.slice A348_1 ((rd_T24 l1_1 x5_2).f1).length c348_1)) (ds := []) #[false, false, false, false, false, false, false, false, false, false, false, false] (by kernel_rfl) rfl rfl ⟨(blk_cell BK342.out 0).trans rfl, (blk_cell BK342.out 1).trans rfl, (blk_cell BK343.out 0).trans rfl, (blk_cell BK343.out 1).trans rfl, ((HB.out.cell (World.block_lt_of_cell? w _ hw347_0)).trans hw347_0), ((HB.out.cell (World.block_lt_of_cell? w _ hw347_1)).trans hw347_1), ((HB.out.cell (World.block_lt_of_cell? w _ hw348_0)).trans hw348_0), ((HB.out.cell (World.block_lt_of_cell? w _ hw348_1)).trans hw348_1)⟩ (fun hHeld => ?_); refine with_tabW soritesref06_Less.tab11 soritesref06_Less.bits11 (fun HT_ HW_ => ?_)
                        generalize w34.drew = w35 at BK342 BK343 HB HR347_1 HR348_1 hx347_0 hx347_1 hx348_0 hx348_1 hHeld ⊢
                        refine pure_ (i := 0) (N := some 62) (v := ?_) (a' := ?_) #[true, false, false, false, false, false, false, false, false, false, false, false] rfl rfl (any_of HT_.out (by kernel_rfl)) (fun _ _ _ h => h) (Or.inl ⟨by rfl, ?_⟩) ?_ ?_
                        rotate_left
                        · intro w'
                          go_simp
                          with_reducible rfl
                        rotate_left
                        · simp only [Act.put, List.setIfInBounds_toArray, List.set_cons_zero, List.set_cons_succ, i64_w, i32_w]
                          rfl
                        refine pure_ (i := 2) (N := some 64) (v := ?_) (a' := ?_) #[true, false, true, false, false, false, false, false, false, false, false, false] rfl rfl (any_of HT_.out (by kernel_rfl)) (fun _ _ _ h => h) (Or.inl ⟨by rfl, ?_⟩) ?_ ?_
                        rotate_left
                        · intro w'
                          go_simp
                          with_reducible rfl
                        rotate_left
                        · simp only [Act.put, List.setIfInBounds_toArray, List.set_cons_zero, List.set_cons_succ, i64_w, i32_w]
                          rfl
                        refine pure_ (i := 5) (N := some 67) (v := ?_) (a' := ?_) #[true, false, true, false, false, true, false, false, false, false, false, false] rfl rfl (any_of HT_.out (by kernel_rfl)) (fun _ _ _ h => h) (Or.inl ⟨by rfl, ?_⟩) ?_ ?_
                        rotate_left
                        · intro w'
                          go_simp
                          with_reducible rfl
                        rotate_left
                        · simp only [Act.put, List.setIfInBounds_toArray, List.set_cons_zero, List.set_cons_succ, i64_w, i32_w]
                          rfl
                        refine pure_ (i := 7) (N := some 69) (v := ?_) (a' := ?_) #[true, false, true, false, false, true, false, true, false, false, false, false] rfl rfl (any_of HT_.out (by kernel_rfl)) (fun _ _ _ h => h) (Or.inl ⟨by rfl, ?_⟩) ?_ ?_
                        rotate_left
                        · intro w'
                          go_simp
                          with_reducible rfl
                        rotate_left
                        · simp only [Act.put, List.setIfInBounds_toArray, List.set_cons_zero, List.set_cons_succ, i64_w, i32_w]
                          rfl
                        refine take_ (i := 1) (N := some 63) (v := ?_) (a' := ?_) #[true, true, true, false, false, true, false, true, false, false, false, false] rfl rfl (take_ofW HT_.out HW_.out (by kernel_rfl)) (fun _ _ _ h => h) (Or.inl ⟨by rfl, ?_⟩) hHeld ?_ ?_
                        rotate_left
                        · rintro w' ⟨s0, s1, s2, s3, s4, s5, s6, s7⟩
                          go_simp
                          with_reducible rfl
                        rotate_left
                        · simp only [Act.put, List.setIfInBounds_toArray, List.set_cons_zero, List.set_cons_succ, i64_w, i32_w]
                          rfl
                        refine pure_ (i := 3) (N := some 65) (v := ?_) (a' := ?_) #[true, true, true, true, false, true, false, true, false, false, false, false] rfl rfl (any_of HT_.out (by kernel_rfl)) (fun _ _ _ h => h) (Or.inl ⟨by rfl, ?_⟩) ?_ ?_
                        rotate_left
                        · intro w'
                          go_simp
                          with_reducible rfl
                        rotate_left
                        · simp only [Act.put, List.setIfInBounds_toArray, List.set_cons_zero, List.set_cons_succ, i64_w, i32_w]
                          rfl
                        refine take_ (i := 4) (N := some 66) (v := ?_) (a' := ?_) #[true, true, true, true, true, true, false, true, false, false, false, false] rfl rfl (take_ofW HT_.out HW_.out (by kernel_rfl)) (fun _ _ _ h => h) (Or.inl ⟨by rfl, ?_⟩) hHeld ?_ ?_
                        rotate_left
                        · rintro w' ⟨s0, s1, s2, s3, s4, s5, s6, s7⟩
                          go_simp
                          with_reducible rfl
                        rotate_left
                        · simp only [Act.put, List.setIfInBounds_toArray, List.set_cons_zero, List.set_cons_succ, i64_w, i32_w]
                          rfl
                        refine take_ (i := 6) (N := some 68) (v := ?_) (a' := ?_) #[true, true, true, true, true, true, true, true, false, false, false, false] rfl rfl (take_ofW HT_.out HW_.out (by kernel_rfl)) (fun _ _ _ h => h) (Or.inl ⟨by rfl, ?_⟩) hHeld ?_ ?_
                        rotate_left
                        · rintro w' ⟨s0, s1, s2, s3, s4, s5, s6, s7⟩
                          go_simp
                          with_reducible rfl
                        rotate_left
                        · simp only [Act.put, List.setIfInBounds_toArray, List.set_cons_zero, List.set_cons_succ, i64_w, i32_w]
                          rfl
                        refine pure_ (i := 8) (N := some 70) (v := ?_) (a' := ?_) #[true, true, true, true, true, true, true, true, true, false, false, false] rfl rfl (any_of HT_.out (by kernel_rfl)) (fun _ _ _ h => h) (Or.inl ⟨by rfl, ?_⟩) ?_ ?_
                        rotate_left
                        · intro w'
                          go_simp
                          with_reducible rfl
                        rotate_left
                        · simp only [Act.put, List.setIfInBounds_toArray, List.set_cons_zero, List.set_cons_succ, i64_w, i32_w]
                          rfl
                        refine take_ (i := 9) (N := some 71) (v := ?_) (a' := ?_) #[true, true, true, true, true, true, true, true, true, true, false, false] rfl rfl (take_ofW HT_.out HW_.out (by kernel_rfl)) (fun _ _ _ h => h) (Or.inl ⟨by rfl, ?_⟩) hHeld ?_ ?_
                        rotate_left
                        · rintro w' ⟨s0, s1, s2, s3, s4, s5, s6, s7⟩
                          go_simp
                          with_reducible rfl
                        rotate_left
                        · simp only [Act.put, List.setIfInBounds_toArray, List.set_cons_zero, List.set_cons_succ, i64_w, i32_w]
                          rfl
                        refine one_ (i := 10) (N := some 72) #[true, true, true, true, true, true, true, true, true, true, true, false] rfl rfl (one_of HT_.out (by kernel_rfl)) (by decide) (fun K hK => ?_)
                        refine goes_ Try.func47 (by kernel_rfl) rfl #[.agg #[.int .i64 ((rd_T24 l0_1 x5_2).f0), .slice A347_1 ((rd_T24 l0_1 x5_2).f1).length c347_1], .agg #[.int .i64 ((rd_T24 l1_1 x5_2).f0), .slice A348_1 ((rd_T24 l1_1 x5_2).f1).length c348_1]] (by rfl) rfl rfl (by (try simp only [List.map_toArray, List.map_cons, List.map_nil]); first | done | rfl | (simp only [List.length_drop, List.length_take]; rfl)) ?_
                        with_reducible refine (ih k2 (by have := HJ2.out; have := HK2.out; omega) ((rd_T24 l0_1 x5_2).f0) _ _ ((rd_T24 l0_1 x5_2).f1) ((rd_T24 l1_1 x5_2).f0) _ _ ((rd_T24 l1_1 x5_2).f1) t349 _ ?side1 ?side2 ?side3 ?side4 A30.out).mono ?_
                        (case side1 => repeat (first | exact (Kd.C_below HR347_1.out HB.out) | (with_reducible refine Kd.C_alloc ?_ _) | (with_reducible refine Kd.C_drewN ?_ _) | (with_reducible refine Kd.C_drew ?_)))
                        (case side2 => exact HC347_1.out)
                        (case side3 => repeat (first | exact (Kd.C_below HR348_1.out HB.out) | (with_reducible refine Kd.C_alloc ?_ _) | (with_reducible refine Kd.C_drewN ?_ _) | (with_reducible refine Kd.C_drew ?_)))
                        (case side4 => exact HC348_1.out)
                        rintro e w36 ⟨rfl, hb⟩
                        refine ⟨_, rfl, ?_⟩
                        have n0_ := Aside0.mk (blk_below (g := gb342) (o := .cells #[.int .i64 a0_0, .slice (some ad344) l0_1.length c0_1] 24 (0, 0)) (by (with_reducible repeat (first | refine blk_drewN ?_ _ | refine blk_drew ?_ | refine blk_alloc ?_ _)); exact BK342.out) hb)
                        have n1_ := Aside0.mk (blk_below (g := gb343) (o := .cells #[.int .i64 a1_0, .slice (some ad345) l1_1.length c1_1] 24 (0, 0)) (by (with_reducible repeat (first | refine blk_drewN ?_ _ | refine blk_drew ?_ | refine blk_alloc ?_ _)); exact BK343.out) hb)
                        have n2_ := Aside0.mk (below_step (by repeat (first | (with_reducible first | exact HB.out | apply below_alloc | apply pw_below_drewN | apply below_drew1 | refine below_set ?_ GE342.out | refine below_set ?_ GE343.out) | exact HB.out)) hb)
                        clear BK342
                        clear BK343
                        clear HB
                        have BK342 := n0_
                        have BK343 := n1_
                        have HB := n2_
                        clear n0_ n1_ n2_
                        (try clear hb)
                        (try clear hb2)
                        (try clear hk)
                        (try clear hi)
                        refine hK.out _ _ ⟨(blk_cell BK342.out 0).trans rfl, (blk_cell BK342.out 1).trans rfl, (blk_cell BK343.out 0).trans rfl, (blk_cell BK343.out 1).trans rfl, ((HB.out.cell (World.block_lt_of_cell? w _ hw347_0)).trans hw347_0), ((HB.out.cell (World.block_lt_of_cell? w _ hw347_1)).trans hw347_1), ((HB.out.cell (World.block_lt_of_cell? w _ hw348_0)).trans hw348_0), ((HB.out.cell (World.block_lt_of_cell? w _ hw348_1)).trans hw348_1)⟩ (fun hHeld => ?_)
                        clear hK K
                        refine norm_ (a' := ?_) ?_ ?_
                        rotate_left
                        · show Act.put _ (some 72) _ = _
                          simp only [Act.put, List.setIfInBounds_toArray, List.set_cons_zero, List.set_cons_succ, i64_w, i32_w]
                          rfl
                        refine pure_ (i := 11) (N := some 4) (v := ?_) (a' := ?_) #[true, true, true, true, true, true, true, true, true, true, true, true] rfl rfl (any_of HT_.out (by kernel_rfl)) (fun _ _ _ h => h) (Or.inl ⟨by rfl, ?_⟩) ?_ ?_
                        rotate_left
                        · intro w'
                          go_simp
                          with_reducible rfl
                        rotate_left
                        · simp only [Act.put, List.setIfInBounds_toArray, List.set_cons_zero, List.set_cons_succ, i64_w, i32_w]
                          rfl
                        refine done_ (done_of HT_.out (by kernel_rfl)) ?_
                        try go_wp2
                        go_ret
                        exact ⟨by first | rfl | (simp [errW_none, errW_some] <;> rfl) | (simp [*, errW_none, errW_some] <;> rfl), by repeat (first | (with_reducible first | exact HB.out | apply below_alloc | apply pw_below_drewN | apply below_drew1 | refine below_set ?_ GE342.out | refine below_set ?_ GE343.out) | exact HB.out)⟩
                    · rw [if_neg c23] at H
                      exact absurd H (by simp)
                  · rw [if_neg c22] at H
                    exact absurd H (by simp)
                · rw [if_neg c21] at H
                  have c21b0 : decide (x5_2 < (l0_1.length : Int)) = false := decide_eq_false c21
                  clear c21
                  obtain rfl := Option.some.inj H
                  have hnb37 := NB342_343.out
                  have hnc37 := NB343_342.out
                  have hcz38_0 : wr.cell? ⟨gb342, 0, none⟩ = some (.int .i64 a0_0) := (blk_cell BK342.out 0).trans rfl
                  have hcz38_1 : wr.cell? ⟨gb342, 1, none⟩ = some (.slice A0_1 l0_1.length c0_1) := (blk_cell BK342.out 1).trans rfl
                  have hfz38_0 := blk_frozen BK342.out 0
                  have hfz38_1 := blk_frozen BK342.out 1
                  go_wp2
                  go_ret
                  exact ⟨by first | rfl | (simp [errW_none, errW_some] <;> rfl) | (simp [*, errW_none, errW_some] <;> rfl), by repeat (first | (with_reducible first | exact HB.out | apply below_alloc | apply pw_below_drewN | apply below_drew1 | refine below_set ?_ GE342.out | refine below_set ?_ GE343.out) | exact HB.out)⟩
          · rw [if_neg c17] at H
            have c17b0 : ((l0_1.length : Int) == (l1_1.length : Int)) = false := beq_eq_false_iff_ne.mpr c17
            have c17b1 : ((l0_1.length : Int) != (l1_1.length : Int)) = true := bne_iff_ne.mpr c17
            have c17b2 : (l0_1.length == l1_1.length) = false := by first | simpa using c17 | (simp at c17 ⊢; omega)
            obtain rfl := Option.some.inj H
            have hnb39 := NB342_343.out
            have hnc39 := NB343_342.out
            have hcz40_0 : wc.cell? ⟨gb342, 0, none⟩ = some (.int .i64 a0_0) := (blk_cell BK342.out 0).trans rfl
            have hcz40_1 : wc.cell? ⟨gb342, 1, none⟩ = some (.slice A0_1 l0_1.length c0_1) := (blk_cell BK342.out 1).trans rfl
            have hfz40_0 := blk_frozen BK342.out 0
            have hfz40_1 := blk_frozen BK342.out 1
            have hcz41_0 : wc.cell? ⟨gb343, 0, none⟩ = some (.int .i64 a1_0) := (blk_cell BK343.out 0).trans rfl
            have hcz41_1 : wc.cell? ⟨gb343, 1, none⟩ = some (.slice A1_1 l1_1.length c1_1) := (blk_cell BK343.out 1).trans rfl
            have hfz41_0 := blk_frozen BK343.out 0
            have hfz41_1 := blk_frozen BK343.out 1
            go_wp2
            go_ret
            exact ⟨by first | rfl | (simp [errW_none, errW_some] <;> rfl) | (simp [*, errW_none, errW_some] <;> rfl), by repeat (first | (with_reducible first | exact HB.out | apply below_alloc | apply pw_below_drewN | apply below_drew1 | refine below_set ?_ GE342.out | refine below_set ?_ GE343.out) | exact HB.out)⟩
        · rw [if_neg c16] at H
          have c16b0 : (a0_0 == a1_0) = false := beq_eq_false_iff_ne.mpr c16
          have c16b1 : (a0_0 != a1_0) = true := bne_iff_ne.mpr c16
          obtain rfl := Option.some.inj H
          have hnb42 := NB342_343.out
          have hnc42 := NB343_342.out
          have hcz43_0 : wc.cell? ⟨gb342, 0, none⟩ = some (.int .i64 a0_0) := (blk_cell BK342.out 0).trans rfl
          have hcz43_1 : wc.cell? ⟨gb342, 1, none⟩ = some (.slice A0_1 l0_1.length c0_1) := (blk_cell BK342.out 1).trans rfl
          have hfz43_0 := blk_frozen BK342.out 0
          have hfz43_1 := blk_frozen BK342.out 1
          have hcz44_0 : wc.cell? ⟨gb343, 0, none⟩ = some (.int .i64 a1_0) := (blk_cell BK343.out 0).trans rfl
          have hcz44_1 : wc.cell? ⟨gb343, 1, none⟩ = some (.slice A1_1 l1_1.length c1_1) := (blk_cell BK343.out 1).trans rfl
          have hfz44_0 := blk_frozen BK343.out 0
          have hfz44_1 := blk_frozen BK343.out 1
          go_wp2
          go_ret
          exact ⟨by first | rfl | (simp [errW_none, errW_some] <;> rfl) | (simp [*, errW_none, errW_some] <;> rfl), by repeat (first | (with_reducible first | exact HB.out | apply below_alloc | apply pw_below_drewN | apply below_drew1 | refine below_set ?_ GE342.out | refine below_set ?_ GE343.out) | exact HB.out)⟩
end Go.Proofs.Ytpfddihcikiofaa.P
end

section
namespace Go.Proofs.Ytpfddihcikiofaa.P
open Go.RowKit Go.Proofs.YtpfddihcikiofaaW.PrintWords Go.Proofs.YtpfddihcikiofaaW.PrintLast Go.Proofs.YtpfddihcikiofaaW.PrintMore
attribute [local go_sem] max2_int min2_int max_two min_two max_three min_three max_four min_four
set_option linter.unusedVariables false
set_option linter.unusedSimpArgs false
mutual
def soritesref06_Flat.l0 : Nat → List (S24) → Int → Int → List (S24) → Option ((List (S24)))
  | 0, _, _, _, _ => none
  | k + 1, x3, x4, x159000, x159001 => if x159000 ≥ 0 then (if x4 < (x159001.length : Int) then (if 0 ≤ x4 then ((soritesref06_Flat.f k ((rd_T24 x159001 x4).f0) ((rd_T24 x159001 x4).f1)).bind fun t163 => (if x3.length + t163.length < 4398046511104 then (soritesref06_Flat.l0 k (x3 ++ t163) (wrap64 (x4 + 1)) x159000 x159001) else (none))) else (none)) else (some x3)) else (some x3)
def soritesref06_Flat.f : Nat → Int → List (S24) → Option ((List (S24)))
  | 0, _, _ => none
  | k + 1, a0_0, l0_1 => soritesref06_Flat.l0 k (([(⟨a0_0, l0_1⟩ : S24)] : List (S24))) 0 a0_0 l0_1
end
set_option maxHeartbeats 8000000 in
set_option maxRecDepth 100000 in
theorem soritesref06_Flat.calls (k : Nat) : ∀ (a0_0 : Int) (P0_1_ : Nat → Prop) (A0_1 : Option Addr) (c0_1 : Nat) (l0_1 : List (S24)) (r : List (S24)) (w : World) (hs0_1 : Kd.V k24 24 w w.heap.size (fun k_ => P0_1_ k_) (.slice A0_1 l0_1.length c0_1) l0_1) (h : soritesref06_Flat.f k a0_0 l0_1 = some r),
    Calls Try.prog 26 #[.agg #[.int .i64 a0_0, .slice A0_1 l0_1.length c0_1]] w fun e w' => ∃ v0_ : Value, e = .returned (v0_) ∧ Kd.N k24 24 w' w.heap.size (fun k_ => (P0_1_ k_ ∨ w.heap.size ≤ k_)) v0_ r ∧ Below w.heap.size w w' := by
  induction k using Nat.strongRecOn with
  | _ k ih =>
  intro a0_0 P0_1_ A0_1 c0_1 l0_1 r w hs0_1 h
  cases k with
  | zero => exact absurd h (by simp [soritesref06_Flat.f])
  | succ k =>
  simp only [soritesref06_Flat.f] at h
  have hu24 := Try.underlying24
  have HO0_1 := Aside0.mk (show Kd.V k24 24 w w.heap.size (fun k_ => (P0_1_ k_ ∨ w.heap.size ≤ k_)) (.slice A0_1 l0_1.length c0_1) l0_1 from Kd.V_mono hs0_1 (fun k_ hk => .inl hk))
  have HB := Aside0.mk (Below.refl w.heap.size w)
  have H : (soritesref06_Flat.l0 k (([(⟨a0_0, l0_1⟩ : S24)] : List (S24))) 0 a0_0 l0_1) = some r := h
  clear h
  obtain ⟨y159, hy159⟩ : ∃ y_ : List (S24), y_ = (([(⟨a0_0, l0_1⟩ : S24)] : List (S24))) := ⟨_, rfl⟩
  replace H : (soritesref06_Flat.l0 k y159 0 a0_0 l0_1) = some r := by first | (rw [hy159]; with_reducible exact H) | (have H2_ := (Option.bind_some _ _).symm.trans H; rw [hy159]; with_reducible exact H2_) | (have H2_ := (Option.bind_some _ _).symm.trans H; with_reducible exact H2_) | with_reducible exact H | (rw [hy159]; exact H) | exact H
  have Ny159 := Aside0.mk hy159
  clear hy159
  have H' := Aside0.mk H
  clear H
  go_enter Try.func26, Try.ntmps26
  go_wp2_with (first | ((with_reducible refine gate_dst (N := 1) rfl ?_); (try (refine gate_guard (by rfl) ?_; dsimp only)); refine box_event ?hg (N := 1) ?hd (cs := #[.int .i64 a0_0, .slice A0_1 l0_1.length c0_1]) (t := 24) ?hr ?_; (case hd => rfl); (case hg => rfl); (case hr => first | (go_simp; done) | (go_simp; rfl)); intro gb158 hg w2 hbox hb; have n0_ := Aside0.mk (Kd.V_below (Kd.V_elderB (by (with_reducible repeat (first | apply Kd.V_alloc | apply Kd.V_drewN | apply Kd.V_drew)); exact HO0_1.out) gb158 (Nat.le_of_eq hg.symm)) hb); have n1_ := Aside0.mk (below_step (by repeat (first | (with_reducible first | exact HB.out | apply below_alloc | apply pw_below_drewN | apply below_drew1) | exact HB.out)) hb); have n2_ := Aside0.mk (hbox); have n3_ := Aside0.mk ((by rw [hg]; exact (below_size (by repeat (first | (with_reducible first | exact HB.out | apply below_alloc | apply pw_below_drewN | apply below_drew1) | exact HB.out))) : w.heap.size ≤ gb158)); have n4_ := Aside0.mk ((by rw [hg]; exact (below_size (by repeat (first | (with_reducible first | exact HB.out | apply below_alloc | apply pw_below_drewN | apply below_drew1) | exact HB.out))) : w.heap.size ≤ gb158)); clear HO0_1; clear HB; have HO0_1 := n0_; have HB := n1_; have BK158 := n2_; have GW158 := n3_; have GE158 := n4_; clear n0_ n1_ n2_ n3_ n4_; clear hb hbox hg; have hcz3_0 : w2.cell? ⟨gb158, 0, none⟩ = some (.int .i64 a0_0) := (blk_cell BK158.out 0).trans rfl; have hcz3_1 : w2.cell? ⟨gb158, 1, none⟩ = some (.slice A0_1 l0_1.length c0_1) := (blk_cell BK158.out 1).trans rfl; have hfz3_0 := blk_frozen BK158.out 0; have hfz3_1 := blk_frozen BK158.out 1) | ((with_reducible refine gate_dst (N := 6) rfl ?_); (try (refine gate_guard (by rfl) ?_; dsimp only)); refine Kd.N_lit k24 _ 24 ?hg (N' := 6) ?hd (xs := ([(⟨a0_0, l0_1⟩ : S24)] : List (S24))) (inner := [.int .i64 a0_0, .slice A0_1 l0_1.length c0_1]) (ok := (fun k_ => (P0_1_ k_ ∨ w.heap.size ≤ k_) ∧ k_ ≠ gb158)) (okp := (fun k_ => (P0_1_ k_ ∨ w.heap.size ≤ k_) ∧ k_ ≠ gb158)) ?hr ?hp (fun _ hk => hk) ((show ∀ k_, w2.heap.size ≤ k_ → (fun k_ => (P0_1_ k_ ∨ w.heap.size ≤ k_) ∧ k_ ≠ gb158) k_ from fun k_ hk => ⟨(.inr (Nat.le_trans (below_size (by repeat (first | (with_reducible first | exact HB.out | apply below_alloc | apply pw_below_drewN | apply below_drew1 | refine below_set ?_ GE158.out) | exact HB.out))) hk)), Kd.freshB (g := gb158) (o := .cells #[.int .i64 a0_0, .slice A0_1 l0_1.length c0_1] 24 (0, 0)) (by (with_reducible repeat (first | refine blk_drewN ?_ _ | refine blk_drew ?_ | refine blk_alloc ?_ _)); exact BK158.out) k_ hk⟩) _ (Nat.le_refl _)) (Below.refl _ _) (Nat.le_refl _) (by simp) ?_; (case hd => rfl); (case hg => rfl); (case hr => first | (go_simp; done) | (go_simp; rfl)); (case hp => exact (Reps.c2 (show Kd.FK k24 _ _ (⟨a0_0, l0_1⟩ : S24) [.int .i64 a0_0, .slice A0_1 l0_1.length c0_1] from (k24_mkF _ _ (⟨a0_0, l0_1⟩ : S24) (Kd.V_reads' (Kd.V_mono (ok' := (fun k_ => (P0_1_ k_ ∨ w.heap.size ≤ k_) ∧ k_ ≠ gb158)) (HO0_1.out) (fun k_ hk => ⟨hk.1, hk.2⟩))).2.1 (Kd.V_F (Kd.V_mono (ok' := (fun k_ => (P0_1_ k_ ∨ w.heap.size ≤ k_) ∧ k_ ≠ gb158)) (HO0_1.out) (fun k_ hk => ⟨hk.1, hk.2⟩))))) (Reps.none _ _))); intro v160 w4 ho5 hb hg_ hnew_; clear hg_ hnew_; (first | rw [← Ny159.out] at ho5 | (simp only [Int.reduceToNat] at ho5; rw [← Ny159.out] at ho5)); have n0_ := Aside0.mk (Kd.V_elder' (by (with_reducible repeat (first | apply Kd.V_alloc | apply Kd.V_drewN | apply Kd.V_drew)); exact HO0_1.out) (Kd.N_base ho5) hb); have n1_ := Aside0.mk (Kd.N_lower ho5 (below_size (by repeat (first | (with_reducible first | exact HB.out | apply below_alloc | apply pw_below_drewN | apply below_drew1 | refine below_set ?_ GE158.out) | exact HB.out)))); have n2_ := Aside0.mk (blk_below (g := gb158) (o := .cells #[.int .i64 a0_0, .slice A0_1 l0_1.length c0_1] 24 (0, 0)) (by (with_reducible repeat (first | refine blk_drewN ?_ _ | refine blk_drew ?_ | refine blk_alloc ?_ _)); exact BK158.out) hb); have n3_ := Aside0.mk (below_step (by repeat (first | (with_reducible first | exact HB.out | apply below_alloc | apply pw_below_drewN | apply below_drew1 | refine below_set ?_ GE158.out) | exact HB.out)) hb); clear HO0_1; clear BK158; clear HB; have HO0_1 := n0_; have HO161 := n1_; have BK158 := n2_; have HB := n3_; clear n0_ n1_ n2_ n3_; clear hb ho5))
  go_loopg [3, 4] k (fun kq v3 v4 w' => ∃ (x3_1 : List (S24)) (x4_1 : Int), v4 = .int .i64 x4_1 ∧ Aside0 (soritesref06_Flat.l0 kq x3_1 x4_1 a0_0 l0_1 = some r) ∧ Aside0 (kq ≤ k) ∧ Aside0 (Kd.N k24 24 w' w.heap.size (fun k_ => (P0_1_ k_ ∨ w.heap.size ≤ k_) ∧ k_ ≠ gb158) v3 x3_1) ∧ Aside0 (Kd.V k24 24 w' w.heap.size (fun k_ => (P0_1_ k_ ∨ w.heap.size ≤ k_) ∧ some k_ ≠ (v3 : Value).ownBlock ∧ k_ ≠ gb158) (.slice A0_1 l0_1.length c0_1) l0_1) ∧ Aside0 (w'.heap[gb158]? = some (.cells #[.int .i64 a0_0, (.slice A0_1 l0_1.length c0_1)] 24 (0, 0))) ∧ Aside0 (Below w.heap.size w w'))
  case atStart => exact ⟨(y159), (0), (by first | rfl | (simp; done) | (simp [*]; done)), H', ⟨Nat.le_refl _⟩, ⟨by (with_reducible repeat (first | apply Kd.N_alloc | apply Kd.N_drewN | apply Kd.N_drew)); exact HO161.out⟩, ⟨by (with_reducible repeat (first | apply Kd.V_alloc | apply Kd.V_drewN | apply Kd.V_drew)); exact Kd.V_mono HO0_1.out (fun _ hk => ⟨hk.1.1, ⟨hk.2, hk.1.2⟩⟩)⟩, ⟨by (with_reducible repeat (first | refine blk_drewN ?_ _ | refine blk_drew ?_ | refine blk_alloc ?_ _)); exact BK158.out⟩, ⟨by repeat (first | (with_reducible first | exact HB.out | apply below_alloc | apply pw_below_drewN | apply below_drew1 | refine below_set ?_ GE158.out) | exact HB.out)⟩⟩
  case round =>
    clear H'
    try clear c2
    try clear p2
    try clear hcz3_0
    try clear hcz3_1
    try clear hfz3_0
    try clear hfz3_1
    obtain ⟨x3_1, x4_1, rfl, HA, HK1, HO_3, HO_159001, BK158, HB⟩ := hrel
    cases gk with
    | zero => exact absurd HA.out (by simp [soritesref06_Flat.l0])
    | succ k1 =>
      have H := HA.out
      clear HA
      simp only [soritesref06_Flat.l0] at H
      by_cases c6 : a0_0 ≥ 0
      · rw [if_pos c6] at H
        have c6b0 : decide (0 ≤ a0_0) = true := decide_eq_true c6
        clear c6
        by_cases c7 : x4_1 < (l0_1.length : Int)
        · rw [if_pos c7] at H
          have c7b0 : decide (x4_1 < (l0_1.length : Int)) = true := decide_eq_true c7
          clear c7
          by_cases c8 : 0 ≤ x4_1
          · rw [if_pos c8] at H
            have c8b0 : decide (0 ≤ x4_1) = true := decide_eq_true c8
            clear c8
            replace H := Option.bind_eq_some_iff.mp H
            obtain ⟨t163, A90, H⟩ := H
            replace H : (if x3_1.length + t163.length < 4398046511104 then (soritesref06_Flat.l0 k1 (x3_1 ++ t163) (wrap64 (x4_1 + 1)) a0_0 l0_1) else (none)) = some r := H
            have A9 := Aside0.mk A90
            clear A90
            by_cases c10 : x3_1.length + t163.length < 4398046511104
            · rw [if_pos c10] at H
              have LMc10 := Aside0.mk c10
              clear c10
              obtain ⟨y166, hy166⟩ : ∃ y_ : List (S24), y_ = (x3_1 ++ t163) := ⟨_, rfl⟩
              replace H : (soritesref06_Flat.l0 k1 y166 (wrap64 (x4_1 + 1)) a0_0 l0_1) = some r := by first | (rw [hy166]; with_reducible exact H) | (have H2_ := (Option.bind_some _ _).symm.trans H; rw [hy166]; with_reducible exact H2_) | (have H2_ := (Option.bind_some _ _).symm.trans H; with_reducible exact H2_) | with_reducible exact H | (rw [hy166]; exact H) | exact H
              have Ny166 := Aside0.mk hy166
              clear hy166
              have H' := Aside0.mk H
              clear H
              have hcz11_0 : wr.cell? ⟨gb158, 0, none⟩ = some (.int .i64 a0_0) := (blk_cell BK158.out 0).trans rfl
              have hcz11_1 : wr.cell? ⟨gb158, 1, none⟩ = some (.slice A0_1 l0_1.length c0_1) := (blk_cell BK158.out 1).trans rfl
              have hfz11_0 := blk_frozen BK158.out 0
              have hfz11_1 := blk_frozen BK158.out 1
              have p162 : 0 ≤ (x4_1 : Int) := of_decide_eq_true (by first | (with_reducible assumption) | assumption)
              have q162 : x4_1 < (l0_1.length : Int) := of_decide_eq_true (by first | (with_reducible assumption) | assumption)
              obtain ⟨ad162, A162_1, c162_1, e162, hx162_0, hx162_1, hl162_1, hi162_1⟩ := at_T24 (Kd.V_reads' HO_159001.out).2.2 x4_1 p162 q162
              cases e162
              obtain ⟨ce162, hce162, hMe162, hcc162⟩ := Kd.V_get HO_159001.out z24 x4_1 p162 (by first | exact q162 | exact of_decide_eq_true (by first | (with_reducible assumption) | assumption) | (have e_ := (Kd.V_reads' HO_159001.out).1; omega))
              obtain ⟨ua162_1, uc162_1, rfl, ul162_1, ge162_1⟩ := k24_openF hMe162
              have hv162_1 := hcc162 1 _ rfl
              rw [add_field _ _ 1 (by omega)] at hv162_1
              replace hv162_1 := Option.some.inj (hv162_1.symm.trans hx162_1)
              injection hv162_1 with hva_ hvn_ hvc_
              rw [hva_] at ge162_1
              rw [hvc_] at ul162_1
              have HL162_1 := Aside0.mk (show Kd.V k24 24 _ w.heap.size _ _ ((rd_T24 l0_1 x4_1).f1) from Kd.V_mk ul162_1 ge162_1)
              clear hva_ hvn_ hvc_ ge162_1 ul162_1
              clear hcc162 hce162
              have HR162_1 := Aside0.mk hi162_1
              have HC162_1 := Aside0.mk hl162_1
              clear hi162_1 hl162_1
              replace p162 := eq_true p162
              replace q162 := eq_true q162
              go_wp2_with (first | ((with_reducible refine gate_callee (f := 26) rfl ?_); refine goesL_ (some 25) rfl rfl Try.func26 (by kernel_rfl) rfl #[.agg #[.int .i64 ((rd_T24 l0_1 x4_1).f0), .slice A162_1 ((rd_T24 l0_1 x4_1).f1).length c162_1]] rfl (by (try simp only [List.map_toArray, List.map_cons, List.map_nil]); first | done | rfl | (simp only [List.length_drop, List.length_take]; rfl)) ?_; (with_reducible refine (ih k1 (by have := HK1.out; omega) ((rd_T24 l0_1 x4_1).f0) (fun k_ => ((P0_1_ k_ ∨ w.heap.size ≤ k_) ∧ (some k_ ≠ (u3 : Value).ownBlock ∧ k_ ≠ gb158))) _ _ ((rd_T24 l0_1 x4_1).f1) t163 _ ?side1 A9.out).mono ?_); (case side1 => exact HL162_1.out); rintro e w12 ⟨v164, rfl, ho0, hb⟩; refine ⟨_, rfl, ?_⟩; have n0_ := Aside0.mk (Kd.N_elder' (by (with_reducible repeat (first | apply Kd.N_alloc | apply Kd.N_drewN | apply Kd.N_drew)); exact HO_3.out) (Kd.N_base ho0) hb); have n1_ := Aside0.mk (Kd.V_elder' (by (with_reducible repeat (first | apply Kd.V_alloc | apply Kd.V_drewN | apply Kd.V_drew)); exact HO_159001.out) (Kd.N_base ho0) hb); have n2_ := Aside0.mk (Kd.V_elder' (by (with_reducible repeat (first | apply Kd.V_alloc | apply Kd.V_drewN | apply Kd.V_drew)); exact HL162_1.out) (Kd.N_base ho0) hb); have n3_ := Aside0.mk (Kd.N_lower (Kd.N_mono (ok' := fun k_ => (P0_1_ k_ ∨ w.heap.size ≤ k_) ∧ some k_ ≠ (u3 : Value).ownBlock ∧ k_ ≠ gb158) ho0 (fun k_ hk_ => ⟨Or.elim hk_ (fun hs_ => hs_.1) (fun hn_ => (.inr (Nat.le_trans (below_size (by repeat (first | (with_reducible first | exact HB.out | apply below_alloc | apply pw_below_drewN | apply below_drew1 | refine below_set ?_ GE158.out) | exact HB.out))) hn_))), Or.elim hk_ (fun hs_ => hs_.2.1) (fun hn_ => (Kd.fresh' (Kd.N_lt (by (with_reducible repeat (first | apply Kd.N_alloc | apply Kd.N_drewN | apply Kd.N_drew)); exact HO_3.out)) k_ hn_)), Or.elim hk_ (fun hs_ => hs_.2.2) (fun hn_ => (Kd.freshB (g := gb158) (o := .cells #[.int .i64 a0_0, .slice (some ad162) l0_1.length c0_1] 24 (0, 0)) (by (with_reducible repeat (first | refine blk_drewN ?_ _ | refine blk_drew ?_ | refine blk_alloc ?_ _)); exact BK158.out) k_ hn_))⟩)) (below_size (by repeat (first | (with_reducible first | exact HB.out | apply below_alloc | apply pw_below_drewN | apply below_drew1 | refine below_set ?_ GE158.out) | exact HB.out)))); have n4_ := Aside0.mk (blk_below (g := gb158) (o := .cells #[.int .i64 a0_0, .slice (some ad162) l0_1.length c0_1] 24 (0, 0)) (by (with_reducible repeat (first | refine blk_drewN ?_ _ | refine blk_drew ?_ | refine blk_alloc ?_ _)); exact BK158.out) hb); have n5_ := Aside0.mk (Kd.C_below (by repeat (first | (with_reducible exact HR162_1.out) | (with_reducible refine Kd.C_alloc ?_ _) | (with_reducible refine Kd.C_drewN ?_ _) | (with_reducible refine Kd.C_drew ?_) | exact HR162_1.out)) hb); have n6_ := Aside0.mk (below_step (by repeat (first | (with_reducible first | exact HB.out | apply below_alloc | apply pw_below_drewN | apply below_drew1 | refine below_set ?_ GE158.out) | exact HB.out)) hb); clear HO_3; clear HO_159001; clear HL162_1; clear BK158; clear HR162_1; clear HB; have HO_3 := n0_; have HO_159001 := n1_; have HL162_1 := n2_; have HO165 := n3_; have BK158 := n4_; have HR162_1 := n5_; have HB := n6_; clear n0_ n1_ n2_ n3_ n4_ n5_ n6_; (try clear hb); (try clear hb2); (try clear hk); (try clear hi); (try clear ho0); obtain ⟨Ao14, co14, eo14⟩ := Kd.N_slice HO165.out; subst eo14) | ((with_reducible refine gate_builtin (b := .append) (xs := #[.tmp 19, .tmp 25]) rfl ?_); (try (refine gate_guard (by rfl) ?_; dsimp only)); at_builtin; refine Kd.N_append_rows k24 (w0 := w) w.heap.size rfl (.tmp 19) (.tmp 25) 22 24 (.agg #[(.int .i64 0), (.slice none 0 0)]) 32 rfl Try.underlying22 info24 rfl (by decide) (by omega) u3 x3_1 t163 _ _ _ (fun k_ => (P0_1_ k_ ∨ w.heap.size ≤ k_) ∧ k_ ≠ gb158) (fun k_ => ((fun k_ => (P0_1_ k_ ∨ w.heap.size ≤ k_) ∧ k_ ≠ gb158)) k_ ∧ some k_ ≠ (u3 : Value).ownBlock) rfl rfl ?aO ?aR (fun _ hk => hk) ?aF ?aB ?aS ?aL ?_; (case aR => exact (by skip; exact Kd.N_F (Kd.N_mono (ok' := (fun k_ => ((fun k_ => (P0_1_ k_ ∨ w.heap.size ≤ k_) ∧ k_ ≠ gb158)) k_ ∧ some k_ ≠ (u3 : Value).ownBlock)) (HO165.out) (fun k_ hk => ⟨⟨hk.1, hk.2.2⟩, hk.2.1⟩)))); (case aB => exact (by repeat (first | (with_reducible first | exact HB.out | apply below_alloc | apply pw_below_drewN | apply below_drew1 | refine below_set ?_ GE158.out) | exact HB.out))); (case aF => exact (fun k_ hk => ⟨(.inr (Nat.le_trans (below_size (by repeat (first | (with_reducible first | exact HB.out | apply below_alloc | apply pw_below_drewN | apply below_drew1 | refine below_set ?_ GE158.out) | exact HB.out))) hk)), Kd.freshB (g := gb158) (o := .cells #[.int .i64 a0_0, .slice (some ad162) l0_1.length c0_1] 24 (0, 0)) (by (with_reducible repeat (first | refine blk_drewN ?_ _ | refine blk_drew ?_ | refine blk_alloc ?_ _)); exact BK158.out) k_ hk⟩)); (case aO => exact (by (with_reducible repeat (first | apply Kd.N_alloc | apply Kd.N_drewN | apply Kd.N_drew)); exact Kd.N_mono HO_3.out (fun _ hk => ⟨hk.1.1, hk.1.2⟩))); (case aS => exact (below_size (by repeat (first | (with_reducible first | exact HB.out | apply below_alloc | apply pw_below_drewN | apply below_drew1 | refine below_set ?_ GE158.out) | exact HB.out)))); (case aL => have := LMc10.out; omega); intro v167 w13 ho hb hg hat; rw [← Ny166.out] at ho; have n0_ := Aside0.mk (Kd.V_afterv (ok := (fun k_ => (P0_1_ k_ ∨ w.heap.size ≤ k_) ∧ some k_ ≠ (.slice Ao14 t163.length co14 : Value).ownBlock ∧ k_ ≠ gb158)) (by (with_reducible repeat (first | apply Kd.V_alloc | apply Kd.V_drewN | apply Kd.V_drew)); exact Kd.V_mono HO_159001.out (fun _ hk => ⟨⟨hk.1.1, ⟨hk.2, hk.1.2.2⟩⟩, hk.1.2.1⟩)) hg hat); have n1_ := Aside0.mk (blk_grown (g := gb158) (o := .cells #[.int .i64 a0_0, .slice (some ad162) l0_1.length c0_1] 24 (0, 0)) (by (with_reducible repeat (first | refine blk_drewN ?_ _ | refine blk_drew ?_ | refine blk_alloc ?_ _)); exact BK158.out) hg (Kd.N_away HO_3.out (fun _ hk => hk.1.2))); have n2_ := Aside0.mk (Kd.V_afterv (ok := (fun k_ => (P0_1_ k_ ∨ w.heap.size ≤ k_) ∧ some k_ ≠ (.slice Ao14 t163.length co14 : Value).ownBlock ∧ k_ ≠ gb158)) (by (with_reducible repeat (first | apply Kd.V_alloc | apply Kd.V_drewN | apply Kd.V_drew)); exact Kd.V_mono HL162_1.out (fun _ hk => ⟨⟨hk.1.1, ⟨hk.2, hk.1.2.2⟩⟩, hk.1.2.1⟩)) hg hat); have n3_ := Aside0.mk (Kd.N_afterv (ok := (fun k_ => (P0_1_ k_ ∨ w.heap.size ≤ k_) ∧ k_ ≠ gb158)) (by (with_reducible repeat (first | apply Kd.N_alloc | apply Kd.N_drewN | apply Kd.N_drew)); exact Kd.N_mono HO165.out (fun _ hk => ⟨⟨hk.1, hk.2.2⟩, hk.2.1⟩)) hg hat); have n4_ := Aside0.mk (hb); have n5_ := Aside0.mk (ho); clear HO_159001; clear BK158; clear HL162_1; clear HO165; clear HB; clear HO_3; have HO_159001 := n0_; have BK158 := n1_; have HL162_1 := n2_; have HO165 := n3_; have HB := n4_; have HO168 := n5_; clear n0_ n1_ n2_ n3_ n4_ n5_; clear ho hb hg hat))
              go_roundg k1
              case measure => have := HK1.out; omega
              case rel => exact ⟨(y166), (wrap64 (x4_1 + 1)), (by first | rfl | (simp; done) | (simp [*]; done)), H', ⟨by have := HK1.out; omega⟩, ⟨by (with_reducible repeat (first | apply Kd.N_alloc | apply Kd.N_drewN | apply Kd.N_drew)); exact HO168.out⟩, ⟨by (with_reducible repeat (first | apply Kd.V_alloc | apply Kd.V_drewN | apply Kd.V_drew)); exact Kd.V_mono HO_159001.out (fun _ hk => ⟨hk.1.1, ⟨hk.2, hk.1.2.2⟩⟩)⟩, ⟨by (with_reducible repeat (first | refine blk_drewN ?_ _ | refine blk_drew ?_ | refine blk_alloc ?_ _)); exact BK158.out⟩, ⟨by repeat (first | (with_reducible first | exact HB.out | apply below_alloc | apply pw_below_drewN | apply below_drew1 | refine below_set ?_ GE158.out) | exact HB.out)⟩⟩
            · rw [if_neg c10] at H
              exact absurd H (by simp)
          · rw [if_neg c8] at H
            exact absurd H (by simp)
        · rw [if_neg c7] at H
          have c7b0 : decide (x4_1 < (l0_1.length : Int)) = false := decide_eq_false c7
          clear c7
          obtain rfl := Option.some.inj H
          have hcz15_0 : wr.cell? ⟨gb158, 0, none⟩ = some (.int .i64 a0_0) := (blk_cell BK158.out 0).trans rfl
          have hcz15_1 : wr.cell? ⟨gb158, 1, none⟩ = some (.slice A0_1 l0_1.length c0_1) := (blk_cell BK158.out 1).trans rfl
          have hfz15_0 := blk_frozen BK158.out 0
          have hfz15_1 := blk_frozen BK158.out 1
          go_wp2
          go_ret
          exact ⟨_, by first | rfl | (simp [errW_none, errW_some] <;> rfl) | (simp [*, errW_none, errW_some] <;> rfl), by (with_reducible repeat (first | apply Kd.N_alloc | apply Kd.N_drewN | apply Kd.N_drew)); exact Kd.N_mono HO_3.out (fun _ hk => hk.1), by repeat (first | (with_reducible first | exact HB.out | apply below_alloc | apply pw_below_drewN | apply below_drew1 | refine below_set ?_ GE158.out) | exact HB.out)⟩
      · rw [if_neg c6] at H
        have c6b0 : decide (0 ≤ a0_0) = false := decide_eq_false c6
        clear c6
        obtain rfl := Option.some.inj H
        have hcz16_0 : wr.cell? ⟨gb158, 0, none⟩ = some (.int .i64 a0_0) := (blk_cell BK158.out 0).trans rfl
        have hcz16_1 : wr.cell? ⟨gb158, 1, none⟩ = some (.slice A0_1 l0_1.length c0_1) := (blk_cell BK158.out 1).trans rfl
        have hfz16_0 := blk_frozen BK158.out 0
        have hfz16_1 := blk_frozen BK158.out 1
        go_wp2
        go_ret
        exact ⟨_, by first | rfl | (simp [errW_none, errW_some] <;> rfl) | (simp [*, errW_none, errW_some] <;> rfl), by (with_reducible repeat (first | apply Kd.N_alloc | apply Kd.N_drewN | apply Kd.N_drew)); exact Kd.N_mono HO_3.out (fun _ hk => hk.1), by repeat (first | (with_reducible first | exact HB.out | apply below_alloc | apply pw_below_drewN | apply below_drew1 | refine below_set ?_ GE158.out) | exact HB.out)⟩
end Go.Proofs.Ytpfddihcikiofaa.P
end

section
namespace Go.Proofs.Ytpfddihcikiofaa.P
open Go.RowKit Go.Proofs.YtpfddihcikiofaaW.PrintWords Go.Proofs.YtpfddihcikiofaaW.PrintLast Go.Proofs.YtpfddihcikiofaaW.PrintMore
attribute [local go_sem] max2_int min2_int max_two min_two max_three min_three max_four min_four
set_option linter.unusedVariables false
set_option linter.unusedSimpArgs false
mutual
def soritesref06_Vars.l0 : Nat → List (S24) → List Int → Int → Option (List Int)
  | 0, _, _, _ => none
  | k + 1, x3, x4, x5 => if x5 < (x3.length : Int) then (if 0 ≤ x5 then (if ((rd_T24 x3 x5).f0) ≥ 0 then (soritesref06_Vars.l0 k x3 x4 (wrap64 (x5 + 1))) else (soritesref06_Vars.l1 k x3 x4 x5 (wrap64 ((-1) - ((rd_T24 x3 x5).f0))) false 0)) else (none)) else (some x4)
def soritesref06_Vars.l1 : Nat → List (S24) → List Int → Int → Int → Bool → Int → Option (List Int)
  | 0, _, _, _, _, _, _ => none
  | k + 1, x3, x4, x5, x6, x7, x8 => if x8 < (x4.length : Int) then (if x7 = true then (soritesref06_Vars.l1 k x3 x4 x5 x6 true (wrap64 (x8 + 1))) else (if 0 ≤ x8 then (soritesref06_Vars.l1 k x3 x4 x5 x6 ((rd x4 x8) == x6) (wrap64 (x8 + 1))) else (none))) else (if x7 = true then (soritesref06_Vars.l0 k x3 x4 (wrap64 (x5 + 1))) else (if x4.length < 17592186044416 then (soritesref06_Vars.l0 k x3 (x4 ++ [x6]) (wrap64 (x5 + 1))) else (none)))
end
def soritesref06_Vars.f (k : Nat) (a0_0 : Int) (l0_1 : List (S24)) : Option (List Int) := (soritesref06_Flat.f k a0_0 l0_1).bind fun t298 => (soritesref06_Vars.l0 k t298 ([] : List Int) 0)
set_option maxHeartbeats 8000000 in
set_option maxRecDepth 100000 in
theorem soritesref06_Vars.calls (k : Nat) (a0_0 : Int) (A0_1 : Option Addr) (c0_1 : Nat) (l0_1 : List (S24)) (r : List Int) (w : World) (hr0_1 : Kd.C k24 w A0_1 l0_1.length l0_1) (hc0_1 : l0_1.length ≤ c0_1) (h : soritesref06_Vars.f k a0_0 l0_1 = some r) :
    Calls Try.prog 48 #[.agg #[.int .i64 a0_0, .slice A0_1 l0_1.length c0_1]] w fun e w' => ∃ v0_ : Value, e = .returned (v0_) ∧ Kd.R (Kd.int .i64) 3 w' w.heap.size (fun _ => True) v0_ r ∧ Below w.heap.size w w' := by
  have hu24 := Try.underlying24
  have HR0_1 := Aside0.mk hr0_1
  have HC0_1 := Aside0.mk hc0_1
  clear hr0_1 hc0_1
  have HB := Aside0.mk (Below.refl w.heap.size w)
  have H : ((soritesref06_Flat.f k a0_0 l0_1).bind fun t298 => (soritesref06_Vars.l0 k t298 ([] : List Int) 0)) = some r := h
  clear h
  replace H := Option.bind_eq_some_iff.mp H
  obtain ⟨t298, A20, H⟩ := H
  replace H : (soritesref06_Vars.l0 k t298 ([] : List Int) 0) = some r := H
  have A2 := Aside0.mk A20
  clear A20
  have H' := Aside0.mk H
  clear H
  go_enter Try.func48, Try.ntmps48
  go_wp2_with (first | ((with_reducible refine gate_dst (N := 1) rfl ?_); refine box_event ?hg (N := 1) ?hd (cs := #[.int .i64 a0_0, .slice A0_1 l0_1.length c0_1]) (t := 24) ?hr ?_; (case hd => rfl); (case hg => rfl); (case hr => first | (go_simp; done) | (go_simp; rfl)); intro gb297 hg w3 hbox hb; have n0_ := Aside0.mk (below_step (by repeat (first | (with_reducible first | exact HB.out | apply below_alloc | apply pw_below_drewN | apply below_drew1) | exact HB.out)) hb); have n1_ := Aside0.mk (hbox); have n2_ := Aside0.mk ((by rw [hg]; exact (below_size (by repeat (first | (with_reducible first | exact HB.out | apply below_alloc | apply pw_below_drewN | apply below_drew1) | exact HB.out))) : w.heap.size ≤ gb297)); have n3_ := Aside0.mk ((by rw [hg]; exact (below_size (by repeat (first | (with_reducible first | exact HB.out | apply below_alloc | apply pw_below_drewN | apply below_drew1) | exact HB.out))) : w.heap.size ≤ gb297)); clear HB; have HB := n0_; have BK297 := n1_; have GW297 := n2_; have GE297 := n3_; clear n0_ n1_ n2_ n3_; clear hb hbox hg; have hcz4_0 : w3.cell? ⟨gb297, 0, none⟩ = some (.int .i64 a0_0) := (blk_cell BK297.out 0).trans rfl; have hcz4_1 : w3.cell? ⟨gb297, 1, none⟩ = some (.slice A0_1 l0_1.length c0_1) := (blk_cell BK297.out 1).trans rfl; have hfz4_0 := blk_frozen BK297.out 0; have hfz4_1 := blk_frozen BK297.out 1) | ((with_reducible refine gate_callee (f := 26) rfl ?_); refine goesL_ (some 10) rfl rfl Try.func26 (by kernel_rfl) rfl #[.agg #[.int .i64 a0_0, .slice A0_1 l0_1.length c0_1]] rfl (by (try simp only [List.map_toArray, List.map_cons, List.map_nil]); first | done | rfl | (simp only [List.length_drop, List.length_take]; rfl)) ?_; (with_reducible refine (soritesref06_Flat.calls k a0_0 (fun k_ => k_ < w.heap.size) _ _ l0_1 t298 _ ?side1 A2.out).mono ?_); (case side1 => exact Kd.V_mk HC0_1.out (Kd.F_below (Kd.C_F k24_heap HR0_1.out) (by repeat (first | (with_reducible first | exact HB.out | apply below_alloc | apply pw_below_drewN | apply below_drew1 | refine below_set ?_ GE297.out) | exact HB.out)))); rintro e w5 ⟨v299, rfl, ho0, hb⟩; refine ⟨_, rfl, ?_⟩; have n0_ := Aside0.mk (Kd.N_lower (Kd.N_mono (ok' := fun k_ => k_ ≠ gb297) ho0 (fun k_ hk_ => Or.elim hk_ (fun hs_ => fun e_ => Nat.not_le.2 hs_ (by rw [e_]; exact GW297.out)) (fun hn_ => (Kd.freshB (g := gb297) (o := .cells #[.int .i64 a0_0, .slice A0_1 l0_1.length c0_1] 24 (0, 0)) (by (with_reducible repeat (first | refine blk_drewN ?_ _ | refine blk_drew ?_ | refine blk_alloc ?_ _)); exact BK297.out) k_ hn_)))) (below_size (by repeat (first | (with_reducible first | exact HB.out | apply below_alloc | apply pw_below_drewN | apply below_drew1 | refine below_set ?_ GE297.out) | exact HB.out)))); have n1_ := Aside0.mk (blk_below (g := gb297) (o := .cells #[.int .i64 a0_0, .slice A0_1 l0_1.length c0_1] 24 (0, 0)) (by (with_reducible repeat (first | refine blk_drewN ?_ _ | refine blk_drew ?_ | refine blk_alloc ?_ _)); exact BK297.out) hb); have n2_ := Aside0.mk (below_step (by repeat (first | (with_reducible first | exact HB.out | apply below_alloc | apply pw_below_drewN | apply below_drew1 | refine below_set ?_ GE297.out) | exact HB.out)) hb); clear BK297; clear HB; have HO300 := n0_; have BK297 := n1_; have HB := n2_; clear n0_ n1_ n2_; (try clear hb); (try clear hb2); (try clear hk); (try clear hi); (try clear ho0)))
  go_loopg [4, 5] k (fun kq v4 v5 w' => ∃ (x4_1 : List Int) (x5_1 : Int), v5 = .int .i64 x5_1 ∧ Aside0 (soritesref06_Vars.l0 kq t298 x4_1 x5_1 = some r) ∧ Aside0 (kq ≤ k) ∧ Aside0 (Kd.N k24 24 w' w.heap.size (fun k_ => some k_ ≠ (v4 : Value).ownBlock ∧ k_ ≠ gb297) v299 t298) ∧ Aside0 (Kd.R (Kd.int .i64) 3 w' w.heap.size (fun _ => True) v4 x4_1) ∧ Aside0 (w'.heap[gb297]? = some (.cells #[.int .i64 a0_0, (.slice A0_1 l0_1.length c0_1)] 24 (0, 0))) ∧ Aside0 (Below w.heap.size w w'))
  case atStart => exact ⟨(([] : List Int)), (0), (by first | rfl | (simp; done) | (simp [*]; done)), H', ⟨Nat.le_refl _⟩, ⟨by (with_reducible repeat (first | apply Kd.N_alloc | apply Kd.N_drewN | apply Kd.N_drew)); exact Kd.N_mono HO300.out (fun _ hk => ⟨(by simp [Value.ownBlock]), hk⟩)⟩, ⟨by first | exact Kd.R_nil _ _ _ _ _ | exact Kd.N_nil _ _ _ _ _ | exact Kd.V_nil _ _ _ _ _ | exact Kd.Q_nil _ _ _ _ _ | exact Kd.S_nil _ _ _ _ _⟩, ⟨by (with_reducible repeat (first | refine blk_drewN ?_ _ | refine blk_drew ?_ | refine blk_alloc ?_ _)); exact BK297.out⟩, ⟨by repeat (first | (with_reducible first | exact HB.out | apply below_alloc | apply pw_below_drewN | apply below_drew1 | refine below_set ?_ GE297.out) | exact HB.out)⟩⟩
  case round =>
    clear H'
    try clear c2
    try clear p2
    try clear c4
    try clear hcz4_0
    try clear hcz4_1
    try clear hfz4_0
    try clear hfz4_1
    obtain ⟨x4_1, x5_1, rfl, HA, HK1, HO_3, HO_4, BK297, HB⟩ := hrel
    cases gk with
    | zero => exact absurd HA.out (by simp [soritesref06_Vars.l0])
    | succ k1 =>
      have H := HA.out
      clear HA
      simp only [soritesref06_Vars.l0] at H
      by_cases c6 : x5_1 < (t298.length : Int)
      · rw [if_pos c6] at H
        have c6b0 : decide (x5_1 < (t298.length : Int)) = true := decide_eq_true c6
        clear c6
        by_cases c7 : 0 ≤ x5_1
        · rw [if_pos c7] at H
          have c7b0 : decide (0 ≤ x5_1) = true := decide_eq_true c7
          clear c7
          by_cases c8 : ((rd_T24 t298 x5_1).f0) ≥ 0
          · rw [if_pos c8] at H
            have c8b0 : decide (0 ≤ ((rd_T24 t298 x5_1).f0)) = true := decide_eq_true c8
            clear c8
            have H' := Aside0.mk H
            clear H
            obtain ⟨Ao9, co9, eo9⟩ := Kd.N_slice HO_3.out
            subst eo9
            have p301 : 0 ≤ (x5_1 : Int) := of_decide_eq_true (by first | (with_reducible assumption) | assumption)
            have q301 : x5_1 < (t298.length : Int) := of_decide_eq_true (by first | (with_reducible assumption) | assumption)
            obtain ⟨ad301, A301_1, c301_1, e301, hx301_0, hx301_1, hl301_1, hi301_1⟩ := at_T24 (Kd.N_reads' HO_3.out).2.2 x5_1 p301 q301
            cases e301
            obtain ⟨ce301, hce301, hMe301, hcc301⟩ := Kd.N_get HO_3.out z24 x5_1 p301 (by first | exact q301 | exact of_decide_eq_true (by first | (with_reducible assumption) | assumption) | (have e_ := (Kd.N_reads' HO_3.out).1; omega))
            obtain ⟨ua301_1, uc301_1, rfl, ul301_1, ge301_1⟩ := k24_openF hMe301
            have hv301_1 := hcc301 1 _ rfl
            rw [add_field _ _ 1 (by omega)] at hv301_1
            replace hv301_1 := Option.some.inj (hv301_1.symm.trans hx301_1)
            injection hv301_1 with hva_ hvn_ hvc_
            rw [hva_] at ge301_1
            rw [hvc_] at ul301_1
            have HL301_1 := Aside0.mk (show Kd.V k24 24 _ w.heap.size _ _ ((rd_T24 t298 x5_1).f1) from Kd.V_mk ul301_1 ge301_1)
            clear hva_ hvn_ hvc_ ge301_1 ul301_1
            clear hcc301 hce301
            have HR301_1 := Aside0.mk hi301_1
            have HC301_1 := Aside0.mk hl301_1
            clear hi301_1 hl301_1
            replace p301 := eq_true p301
            replace q301 := eq_true q301
            go_wp2
            go_roundg k1
            case measure => have := HK1.out; omega
            case rel => exact ⟨(x4_1), (wrap64 (x5_1 + 1)), (by first | rfl | (simp; done) | (simp [*]; done)), H', ⟨by have := HK1.out; omega⟩, ⟨by (with_reducible repeat (first | apply Kd.N_alloc | apply Kd.N_drewN | apply Kd.N_drew)); exact HO_3.out⟩, ⟨by (with_reducible repeat (first | apply Kd.R_alloc | apply Kd.R_drewN | apply Kd.R_drew)); exact HO_4.out⟩, ⟨by (with_reducible repeat (first | refine blk_drewN ?_ _ | refine blk_drew ?_ | refine blk_alloc ?_ _)); exact BK297.out⟩, ⟨by repeat (first | (with_reducible first | exact HB.out | apply below_alloc | apply pw_below_drewN | apply below_drew1 | refine below_set ?_ GE297.out) | exact HB.out)⟩⟩
          · rw [if_neg c8] at H
            have c8b0 : decide (0 ≤ ((rd_T24 t298 x5_1).f0)) = false := decide_eq_false c8
            clear c8
            have H' := Aside0.mk H
            clear H
            obtain ⟨Ao10, co10, eo10⟩ := Kd.N_slice HO_3.out
            subst eo10
            have p301 : 0 ≤ (x5_1 : Int) := of_decide_eq_true (by first | (with_reducible assumption) | assumption)
            have q301 : x5_1 < (t298.length : Int) := of_decide_eq_true (by first | (with_reducible assumption) | assumption)
            obtain ⟨ad301, A301_1, c301_1, e301, hx301_0, hx301_1, hl301_1, hi301_1⟩ := at_T24 (Kd.N_reads' HO_3.out).2.2 x5_1 p301 q301
            cases e301
            obtain ⟨ce301, hce301, hMe301, hcc301⟩ := Kd.N_get HO_3.out z24 x5_1 p301 (by first | exact q301 | exact of_decide_eq_true (by first | (with_reducible assumption) | assumption) | (have e_ := (Kd.N_reads' HO_3.out).1; omega))
            obtain ⟨ua301_1, uc301_1, rfl, ul301_1, ge301_1⟩ := k24_openF hMe301
            have hv301_1 := hcc301 1 _ rfl
            rw [add_field _ _ 1 (by omega)] at hv301_1
            replace hv301_1 := Option.some.inj (hv301_1.symm.trans hx301_1)
            injection hv301_1 with hva_ hvn_ hvc_
            rw [hva_] at ge301_1
            rw [hvc_] at ul301_1
            have HL301_1 := Aside0.mk (show Kd.V k24 24 _ w.heap.size _ _ ((rd_T24 t298 x5_1).f1) from Kd.V_mk ul301_1 ge301_1)
            clear hva_ hvn_ hvc_ ge301_1 ul301_1
            clear hcc301 hce301
            have HR301_1 := Aside0.mk hi301_1
            have HC301_1 := Aside0.mk hl301_1
            clear hi301_1 hl301_1
            replace p301 := eq_true p301
            replace q301 := eq_true q301
            have p302 : 0 ≤ (x5_1 : Int) := of_decide_eq_true (by first | (with_reducible assumption) | assumption)
            have q302 : x5_1 < (t298.length : Int) := of_decide_eq_true (by first | (with_reducible assumption) | assumption)
            obtain ⟨ad302, A302_1, c302_1, e302, hx302_0, hx302_1, hl302_1, hi302_1⟩ := at_T24 (Kd.N_reads' HO_3.out).2.2 x5_1 p302 q302
            obtain rfl : ad301 = ad302 := (by injection e302)
            obtain ⟨ce302, hce302, hMe302, hcc302⟩ := Kd.N_get HO_3.out z24 x5_1 p302 (by first | exact q302 | exact of_decide_eq_true (by first | (with_reducible assumption) | assumption) | (have e_ := (Kd.N_reads' HO_3.out).1; omega))
            obtain ⟨ua302_1, uc302_1, rfl, ul302_1, ge302_1⟩ := k24_openF hMe302
            have hv302_1 := hcc302 1 _ rfl
            rw [add_field _ _ 1 (by omega)] at hv302_1
            replace hv302_1 := Option.some.inj (hv302_1.symm.trans hx302_1)
            injection hv302_1 with hva_ hvn_ hvc_
            rw [hva_] at ge302_1
            rw [hvc_] at ul302_1
            have HL302_1 := Aside0.mk (show Kd.V k24 24 _ w.heap.size _ _ ((rd_T24 t298 x5_1).f1) from Kd.V_mk ul302_1 ge302_1)
            clear hva_ hvn_ hvc_ ge302_1 ul302_1
            clear hcc302 hce302
            have HR302_1 := Aside0.mk hi302_1
            have HC302_1 := Aside0.mk hl302_1
            clear hi302_1 hl302_1
            replace p302 := eq_true p302
            replace q302 := eq_true q302
            have ea_ := Option.some.inj (hx301_1.symm.trans hx302_1)
            injection ea_ with ea_ en_ ec_
            subst ea_
            subst ec_
            clear en_
            go_wp2
            go_loopg [7, 8] k1 (fun kq v7 v8 w' => ∃ (x7_2 : Bool) (x8_2 : Int), v7 = .bool x7_2 ∧ v8 = .int .i64 x8_2 ∧ Aside0 (soritesref06_Vars.l1 kq t298 x4_1 x5_1 (wrap64 ((-1) - ((rd_T24 t298 x5_1).f0))) x7_2 x8_2 = some r) ∧ Aside0 (kq ≤ k1) ∧ Aside0 (Kd.N k24 24 w' w.heap.size (fun k_ => some k_ ≠ (u4 : Value).ownBlock ∧ k_ ≠ gb297) (.slice (some ad301) t298.length co10) t298) ∧ Aside0 (Kd.R (Kd.int .i64) 3 w' w.heap.size (fun _ => True) u4 x4_1) ∧ Aside0 (w'.heap[gb297]? = some (.cells #[.int .i64 a0_0, (.slice A0_1 l0_1.length c0_1)] 24 (0, 0))) ∧ Aside0 (Kd.C k24 w' A301_1 ((rd_T24 t298 x5_1).f1).length ((rd_T24 t298 x5_1).f1)) ∧ Aside0 (Kd.C k24 w' A301_1 ((rd_T24 t298 x5_1).f1).length ((rd_T24 t298 x5_1).f1)) ∧ Aside0 (Below w.heap.size w w'))
            case atStart => exact ⟨(false), (0), (by first | rfl | (simp; done) | (simp [*]; done)), (by first | rfl | (simp; done) | (simp [*]; done)), H', ⟨Nat.le_refl _⟩, ⟨by (with_reducible repeat (first | apply Kd.N_alloc | apply Kd.N_drewN | apply Kd.N_drew)); exact HO_3.out⟩, ⟨by (with_reducible repeat (first | apply Kd.R_alloc | apply Kd.R_drewN | apply Kd.R_drew)); exact HO_4.out⟩, ⟨by (with_reducible repeat (first | refine blk_drewN ?_ _ | refine blk_drew ?_ | refine blk_alloc ?_ _)); exact BK297.out⟩, ⟨by repeat (first | (with_reducible exact HR301_1.out) | (with_reducible refine Kd.C_alloc ?_ _) | (with_reducible refine Kd.C_drewN ?_ _) | (with_reducible refine Kd.C_drew ?_) | exact HR301_1.out)⟩, ⟨by repeat (first | (with_reducible exact HR302_1.out) | (with_reducible refine Kd.C_alloc ?_ _) | (with_reducible refine Kd.C_drewN ?_ _) | (with_reducible refine Kd.C_drew ?_) | exact HR302_1.out)⟩, ⟨by repeat (first | (with_reducible first | exact HB.out | apply below_alloc | apply pw_below_drewN | apply below_drew1 | refine below_set ?_ GE297.out) | exact HB.out)⟩⟩
            case round =>
              clear H'
              try clear c2
              try clear p2
              try clear c3
              try clear p3
              try clear q3
              try clear hx3
              try clear c4
              try clear c6
              try clear c6b0
              try clear p6
              try clear c7
              try clear c7b0
              try clear c8
              try clear c8b0
              try clear hcz4_0
              try clear hcz4_1
              try clear hfz4_0
              try clear hfz4_1
              try clear hx301_0
              try clear hx301_1
              try clear hx302_0
              try clear hx302_1
              try clear p2
              try clear p301
              try clear p302
              try clear q301
              try clear q302
              obtain ⟨x7_2, x8_2, rfl, rfl, HA, HK2, HO_3, HO_4, BK297, HR301_1, HR302_1, HB⟩ := hrel
              cases gk with
              | zero => exact absurd HA.out (by simp [soritesref06_Vars.l1])
              | succ k2 =>
                have H := HA.out
                clear HA
                simp only [soritesref06_Vars.l1] at H
                by_cases c11 : x8_2 < (x4_1.length : Int)
                · rw [if_pos c11] at H
                  have c11b0 : decide (x8_2 < (x4_1.length : Int)) = true := decide_eq_true c11
                  clear c11
                  by_cases c12 : x7_2 = true
                  · subst c12
                    have H1 : (soritesref06_Vars.l1 k2 t298 x4_1 x5_1 (wrap64 ((-1) - ((rd_T24 t298 x5_1).f0))) true (wrap64 (x8_2 + 1))) = some r := by rw [if_pos rfl] at H; exact H
                    clear H
                    have H := H1
                    clear H1
                    have H' := Aside0.mk H
                    clear H
                    obtain ⟨Ao13, co13, eo13⟩ := Kd.R_slice HO_4.out
                    subst eo13
                    go_wp2
                    go_roundg k2
                    case measure => have := HK1.out; have := HK2.out; omega
                    case rel => exact ⟨(true), (wrap64 (x8_2 + 1)), (by first | rfl | (simp; done) | (simp [*]; done)), (by first | rfl | (simp; done) | (simp [*]; done)), H', ⟨by have := HK1.out; have := HK2.out; omega⟩, ⟨by (with_reducible repeat (first | apply Kd.N_alloc | apply Kd.N_drewN | apply Kd.N_drew)); exact HO_3.out⟩, ⟨by (with_reducible repeat (first | apply Kd.R_alloc | apply Kd.R_drewN | apply Kd.R_drew)); exact HO_4.out⟩, ⟨by (with_reducible repeat (first | refine blk_drewN ?_ _ | refine blk_drew ?_ | refine blk_alloc ?_ _)); exact BK297.out⟩, ⟨by repeat (first | (with_reducible exact HR301_1.out) | (with_reducible refine Kd.C_alloc ?_ _) | (with_reducible refine Kd.C_drewN ?_ _) | (with_reducible refine Kd.C_drew ?_) | exact HR301_1.out)⟩, ⟨by repeat (first | (with_reducible exact HR302_1.out) | (with_reducible refine Kd.C_alloc ?_ _) | (with_reducible refine Kd.C_drewN ?_ _) | (with_reducible refine Kd.C_drew ?_) | exact HR302_1.out)⟩, ⟨by repeat (first | (with_reducible first | exact HB.out | apply below_alloc | apply pw_below_drewN | apply below_drew1 | refine below_set ?_ GE297.out) | exact HB.out)⟩⟩
                  · replace c12 := Bool.eq_false_iff.mpr c12
                    subst c12
                    have H1 : (if 0 ≤ x8_2 then (soritesref06_Vars.l1 k2 t298 x4_1 x5_1 (wrap64 ((-1) - ((rd_T24 t298 x5_1).f0))) ((rd x4_1 x8_2) == (wrap64 ((-1) - ((rd_T24 t298 x5_1).f0)))) (wrap64 (x8_2 + 1))) else (none)) = some r := by rw [if_neg (show ¬ (false = true) by decide)] at H; exact H
                    clear H
                    have H := H1
                    clear H1
                    by_cases c14 : 0 ≤ x8_2
                    · rw [if_pos c14] at H
                      have c14b0 : decide (0 ≤ x8_2) = true := decide_eq_true c14
                      clear c14
                      have H' := Aside0.mk H
                      clear H
                      obtain ⟨Ao15, co15, eo15⟩ := Kd.R_slice HO_4.out
                      subst eo15
                      have p303 : 0 ≤ (x8_2 : Int) := of_decide_eq_true (by first | (with_reducible assumption) | assumption)
                      have q303 : x8_2 < (x4_1.length : Int) := of_decide_eq_true (by first | (with_reducible assumption) | assumption)
                      obtain ⟨ad303, e303, hx303_0⟩ := Kd.at_int (Kd.R_reads' HO_4.out).2.2 x8_2 p303 q303
                      cases e303
                      replace p303 := eq_true p303
                      replace q303 := eq_true q303
                      go_wp2
                      go_roundg k2
                      case measure => have := HK1.out; have := HK2.out; omega
                      case rel => exact ⟨(((rd x4_1 x8_2) == (wrap64 ((-1) - ((rd_T24 t298 x5_1).f0))))), (wrap64 (x8_2 + 1)), (by first | rfl | (simp; done) | (simp [*]; done)), (by first | rfl | (simp; done) | (simp [*]; done)), H', ⟨by have := HK1.out; have := HK2.out; omega⟩, ⟨by (with_reducible repeat (first | apply Kd.N_alloc | apply Kd.N_drewN | apply Kd.N_drew)); exact HO_3.out⟩, ⟨by (with_reducible repeat (first | apply Kd.R_alloc | apply Kd.R_drewN | apply Kd.R_drew)); exact HO_4.out⟩, ⟨by (with_reducible repeat (first | refine blk_drewN ?_ _ | refine blk_drew ?_ | refine blk_alloc ?_ _)); exact BK297.out⟩, ⟨by repeat (first | (with_reducible exact HR301_1.out) | (with_reducible refine Kd.C_alloc ?_ _) | (with_reducible refine Kd.C_drewN ?_ _) | (with_reducible refine Kd.C_drew ?_) | exact HR301_1.out)⟩, ⟨by repeat (first | (with_reducible exact HR302_1.out) | (with_reducible refine Kd.C_alloc ?_ _) | (with_reducible refine Kd.C_drewN ?_ _) | (with_reducible refine Kd.C_drew ?_) | exact HR302_1.out)⟩, ⟨by repeat (first | (with_reducible first | exact HB.out | apply below_alloc | apply pw_below_drewN | apply below_drew1 | refine below_set ?_ GE297.out) | exact HB.out)⟩⟩
                    · rw [if_neg c14] at H
                      exact absurd H (by simp)
                · rw [if_neg c11] at H
                  have c11b0 : decide (x8_2 < (x4_1.length : Int)) = false := decide_eq_false c11
                  clear c11
                  by_cases c16 : x7_2 = true
                  · subst c16
                    have H1 : (soritesref06_Vars.l0 k2 t298 x4_1 (wrap64 (x5_1 + 1))) = some r := by rw [if_pos rfl] at H; exact H
                    clear H
                    have H := H1
                    clear H1
                    have H' := Aside0.mk H
                    clear H
                    obtain ⟨Ao17, co17, eo17⟩ := Kd.R_slice HO_4.out
                    subst eo17
                    go_wp2
                    go_roundg k2
                    case measure => have := HK1.out; have := HK2.out; omega
                    case rel => exact ⟨(x4_1), (wrap64 (x5_1 + 1)), (by first | rfl | (simp; done) | (simp [*]; done)), H', ⟨by have := HK1.out; have := HK2.out; omega⟩, ⟨by (with_reducible repeat (first | apply Kd.N_alloc | apply Kd.N_drewN | apply Kd.N_drew)); exact HO_3.out⟩, ⟨by (with_reducible repeat (first | apply Kd.R_alloc | apply Kd.R_drewN | apply Kd.R_drew)); exact HO_4.out⟩, ⟨by (with_reducible repeat (first | refine blk_drewN ?_ _ | refine blk_drew ?_ | refine blk_alloc ?_ _)); exact BK297.out⟩, ⟨by repeat (first | (with_reducible first | exact HB.out | apply below_alloc | apply pw_below_drewN | apply below_drew1 | refine below_set ?_ GE297.out) | exact HB.out)⟩⟩
                  · replace c16 := Bool.eq_false_iff.mpr c16
                    subst c16
                    have H1 : (if x4_1.length < 17592186044416 then (soritesref06_Vars.l0 k2 t298 (x4_1 ++ [(wrap64 ((-1) - ((rd_T24 t298 x5_1).f0)))]) (wrap64 (x5_1 + 1))) else (none)) = some r := by rw [if_neg (show ¬ (false = true) by decide)] at H; exact H
                    clear H
                    have H := H1
                    clear H1
                    by_cases c18 : x4_1.length < 17592186044416
                    · rw [if_pos c18] at H
                      have LMc18 := Aside0.mk c18
                      clear c18
                      obtain ⟨y304, hy304⟩ : ∃ y_ : List Int, y_ = (x4_1 ++ [(wrap64 ((-1) - ((rd_T24 t298 x5_1).f0)))]) := ⟨_, rfl⟩
                      replace H : (soritesref06_Vars.l0 k2 t298 y304 (wrap64 (x5_1 + 1))) = some r := by first | (rw [hy304]; with_reducible exact H) | (have H2_ := (Option.bind_some _ _).symm.trans H; rw [hy304]; with_reducible exact H2_) | (have H2_ := (Option.bind_some _ _).symm.trans H; with_reducible exact H2_) | with_reducible exact H | (rw [hy304]; exact H) | exact H
                      have Ny304 := Aside0.mk hy304
                      clear hy304
                      have H' := Aside0.mk H
                      clear H
                      obtain ⟨Ao19, co19, eo19⟩ := Kd.R_slice HO_4.out
                      subst eo19
                      go_wp2_with (first | ((with_reducible refine gate_builtin (b := .append) (xs := #[.tmp 46, .tmp 48]) rfl ?_); at_builtin; refine Kd.R_append (Kd.int .i64) (w0 := w) w.heap.size rfl (.tmp 46) (.tmp 48) 25 3 (.int .i64 0) 8 rfl Try.underlying25 info3 rfl (by decide) (by omega) (.slice Ao19 x4_1.length co19) x4_1 (wrap64 ((-1) - ((rd_T24 t298 x5_1).f0))) [.int .i64 (wrap64 ((-1) - ((rd_T24 t298 x5_1).f0)))] (fun _ => True) (fun _ => False) rfl rfl ?aP (fun _ hk => hk.elim) ?aF ?aO ?aB ?aS ?aL ?_; (case aP => exact rfl); (case aB => exact (by repeat (first | (with_reducible first | exact HB.out | apply below_alloc | apply pw_below_drewN | apply below_drew1 | refine below_set ?_ GE297.out) | exact HB.out))); (case aF => exact (fun _ _ => trivial)); (case aO => exact (by (with_reducible repeat (first | apply Kd.R_alloc | apply Kd.R_drewN | apply Kd.R_drew)); exact HO_4.out)); (case aS => exact (below_size (by repeat (first | (with_reducible first | exact HB.out | apply below_alloc | apply pw_below_drewN | apply below_drew1 | refine below_set ?_ GE297.out) | exact HB.out)))); (case aL => have := LMc18.out; omega); intro v305 w20 ho hb hg hat; rw [← Ny304.out] at ho; have n0_ := Aside0.mk (Kd.N_afterv (ok := (fun k_ => k_ ≠ gb297)) (by (with_reducible repeat (first | apply Kd.N_alloc | apply Kd.N_drewN | apply Kd.N_drew)); exact Kd.N_mono HO_3.out (fun _ hk => ⟨hk.2, hk.1⟩)) hg hat); have n1_ := Aside0.mk (blk_grown (g := gb297) (o := .cells #[.int .i64 a0_0, .slice A0_1 l0_1.length c0_1] 24 (0, 0)) (by (with_reducible repeat (first | refine blk_drewN ?_ _ | refine blk_drew ?_ | refine blk_alloc ?_ _)); exact BK297.out) hg (Kd.R_ne HO_4.out BK297.out (by decide))); have n2_ := Aside0.mk (hb); have n3_ := Aside0.mk (ho); clear HO_3; clear BK297; clear HB; clear HO_4; have HO_3 := n0_; have BK297 := n1_; have HB := n2_; have HO306 := n3_; clear n0_ n1_ n2_ n3_; clear ho hb hg hat))
                      go_roundg k2
                      case measure => have := HK1.out; have := HK2.out; omega
                      case rel => exact ⟨(y304), (wrap64 (x5_1 + 1)), (by first | rfl | (simp; done) | (simp [*]; done)), H', ⟨by have := HK1.out; have := HK2.out; omega⟩, ⟨by (with_reducible repeat (first | apply Kd.N_alloc | apply Kd.N_drewN | apply Kd.N_drew)); exact Kd.N_mono HO_3.out (fun _ hk => ⟨hk.2, hk.1⟩)⟩, ⟨by (with_reducible repeat (first | apply Kd.R_alloc | apply Kd.R_drewN | apply Kd.R_drew)); exact HO306.out⟩, ⟨by (with_reducible repeat (first | refine blk_drewN ?_ _ | refine blk_drew ?_ | refine blk_alloc ?_ _)); exact BK297.out⟩, ⟨by repeat (first | (with_reducible first | exact HB.out | apply below_alloc | apply pw_below_drewN | apply below_drew1 | refine below_set ?_ GE297.out) | exact HB.out)⟩⟩
                    · rw [if_neg c18] at H
                      exact absurd H (by simp)
        · rw [if_neg c7] at H
          exact absurd H (by simp)
      · rw [if_neg c6] at H
        have c6b0 : decide (x5_1 < (t298.length : Int)) = false := decide_eq_false c6
        clear c6
        obtain rfl := Option.some.inj H
        obtain ⟨Ao21, co21, eo21⟩ := Kd.N_slice HO_3.out
        subst eo21
        go_wp2
        go_ret
        exact ⟨_, by first | rfl | (simp [errW_none, errW_some] <;> rfl) | (simp [*, errW_none, errW_some] <;> rfl), by (with_reducible repeat (first | apply Kd.R_alloc | apply Kd.R_drewN | apply Kd.R_drew)); exact HO_4.out, by repeat (first | (with_reducible first | exact HB.out | apply below_alloc | apply pw_below_drewN | apply below_drew1 | refine below_set ?_ GE297.out) | exact HB.out)⟩
end Go.Proofs.Ytpfddihcikiofaa.P
end

section
namespace Go.Proofs.Ytpfddihcikiofaa.P
open Go.RowKit Go.Proofs.YtpfddihcikiofaaW.PrintWords Go.Proofs.YtpfddihcikiofaaW.PrintLast Go.Proofs.YtpfddihcikiofaaW.PrintMore
attribute [local go_sem] max2_int min2_int max_two min_two max_three min_three max_four min_four
set_option linter.unusedVariables false
set_option linter.unusedSimpArgs false
mutual
def soriteslaw06_To.l0 : Nat → Int → Int → List (S30) → Int → List (S24) → Option (Int × (List (S24)))
  | 0, _, _, _, _, _ => none
  | k + 1, x4, x183000, x183001, x185000, x185001 => if x183000 ≥ 0 then (if x4 < (x183001.length : Int) then (if 0 ≤ x4 then ((soriteslaw06_To.f k ((rd_T30 x183001 x4).f0) ((rd_T30 x183001 x4).f1)).bind fun bt186 => (if x185001.length < 4398046511104 then (soriteslaw06_To.l0 k (wrap64 (x4 + 1)) x183000 x183001 x185000 (x185001 ++ [(⟨bt186.1, bt186.2⟩ : S24)])) else (none))) else (none)) else (some (x185000, x185001))) else (some (x185000, x185001))
def soriteslaw06_To.f : Nat → Int → List (S30) → Option (Int × (List (S24)))
  | 0, _, _ => none
  | k + 1, a0_0, l0_1 => soriteslaw06_To.l0 k 0 a0_0 l0_1 a0_0 ([] : List (S24))
end
def soriteslaw06_To.T5 : Bool × List (List Nat × List Nat) := (true, [([], []), ([0], [0]), ([], []), ([2], [2]), ([], []), ([3, 4], [3, 4]), ([5], [5]), ([6], [6]), ([7], [7]), ([1, 8, 7], [1, 8]), ([0, 1, 2, 3, 4, 5, 6, 7, 8, 9], []), ([10, 9, 9, 0, 1, 2, 3, 4, 5, 6, 7, 8, 9], [9, 10])])
def soriteslaw06_To.B5 : List Nat := [0, 1, 0, 4, 0, 28, 60, 124, 252, 511, 1023, 2047]
theorem soriteslaw06_To.tab5 : rtab .any (opsOf Try.f29 5) = soriteslaw06_To.T5 := by kernel_rfl
theorem soriteslaw06_To.bits5 : waitsOk soriteslaw06_To.T5.2 soriteslaw06_To.B5 = true := by kernel_rfl
set_option maxHeartbeats 8000000 in
set_option maxRecDepth 100000 in
theorem soriteslaw06_To.calls (k : Nat) : ∀ (a0_0 : Int) (A0_1 : Option Addr) (c0_1 : Nat) (l0_1 : List (S30)) (r1 : Int) (r2 : List (S24)) (w : World) (hr0_1 : Kd.C k30 w A0_1 l0_1.length l0_1) (hc0_1 : l0_1.length ≤ c0_1) (h : soriteslaw06_To.f k a0_0 l0_1 = some (r1, r2)),
    Calls Try.prog 29 #[.agg #[.int .i64 a0_0, .slice A0_1 l0_1.length c0_1]] w fun e w' => ∃ v1_ : Value, e = .returned (.agg #[.int .i64 r1, v1_]) ∧ Kd.R k24 24 w' w.heap.size (fun _ => True) v1_ r2 ∧ Below w.heap.size w w' := by
  induction k using Nat.strongRecOn with
  | _ k ih =>
  intro a0_0 A0_1 c0_1 l0_1 r1 r2 w hr0_1 hc0_1 h
  cases k with
  | zero => exact absurd h (by simp [soriteslaw06_To.f])
  | succ k =>
  simp only [soriteslaw06_To.f] at h
  have hu30 := Try.underlying30
  have hu24 := Try.underlying24
  have HR0_1 := Aside0.mk hr0_1
  have HC0_1 := Aside0.mk hc0_1
  clear hr0_1 hc0_1
  have HB := Aside0.mk (Below.refl w.heap.size w)
  have H : (soriteslaw06_To.l0 k 0 a0_0 l0_1 a0_0 ([] : List (S24))) = some (r1, r2) := h
  clear h
  have H' := Aside0.mk H
  clear H
  go_enter Try.func29, Try.ntmps29
  go_wp2_with (first | ((with_reducible refine gate_dst (N := 1) rfl ?_); (try (refine gate_guard (by rfl) ?_; dsimp only)); refine box_event ?hg (N := 1) ?hd (cs := #[.int .i64 a0_0, .slice A0_1 l0_1.length c0_1]) (t := 30) ?hr ?_; (case hd => rfl); (case hg => rfl); (case hr => first | (go_simp; done) | (go_simp; rfl)); intro gb182 hg w2 hbox hb; have n0_ := Aside0.mk (below_step (by repeat (first | (with_reducible first | exact HB.out | apply below_alloc | apply pw_below_drewN | apply below_drew1) | exact HB.out)) hb); have n1_ := Aside0.mk (hbox); have n2_ := Aside0.mk ((by rw [hg]; exact (below_size (by repeat (first | (with_reducible first | exact HB.out | apply below_alloc | apply pw_below_drewN | apply below_drew1) | exact HB.out))) : w.heap.size ≤ gb182)); have n3_ := Aside0.mk ((by rw [hg]; exact (below_size (by repeat (first | (with_reducible first | exact HB.out | apply below_alloc | apply pw_below_drewN | apply below_drew1) | exact HB.out))) : w.heap.size ≤ gb182)); clear HB; have HB := n0_; have BK182 := n1_; have GW182 := n2_; have GE182 := n3_; clear n0_ n1_ n2_ n3_; clear hb hbox hg) | ((with_reducible refine gate_dst (N := 2) rfl ?_); (try (refine gate_guard (by rfl) ?_; dsimp only)); refine box_event ?hg (N := 2) ?hd (cs := #[.int .i64 0, .slice none 0 0]) (t := 24) ?hr ?_; (case hd => rfl); (case hg => rfl); (case hr => first | (go_simp; done) | (go_simp; rfl)); intro gb183 hg w3 hbox hb; have n0_ := Aside0.mk (blk_below (g := gb182) (o := .cells #[.int .i64 a0_0, .slice A0_1 l0_1.length c0_1] 30 (0, 0)) (by (with_reducible repeat (first | refine blk_drewN ?_ _ | refine blk_drew ?_ | refine blk_alloc ?_ _)); exact BK182.out) hb); have n1_ := Aside0.mk (below_step (by repeat (first | (with_reducible first | exact HB.out | apply below_alloc | apply pw_below_drewN | apply below_drew1 | refine below_set ?_ GE182.out) | exact HB.out)) hb); have n2_ := Aside0.mk (hbox); have n3_ := Aside0.mk ((by rw [hg]; exact (below_size (by repeat (first | (with_reducible first | exact HB.out | apply below_alloc | apply pw_below_drewN | apply below_drew1 | refine below_set ?_ GE182.out) | exact HB.out))) : w.heap.size ≤ gb183)); have n4_ := Aside0.mk ((by rw [hg]; exact (below_size (by repeat (first | (with_reducible first | exact HB.out | apply below_alloc | apply pw_below_drewN | apply below_drew1 | refine below_set ?_ GE182.out) | exact HB.out))) : w.heap.size ≤ gb183)); have n5_ := Aside0.mk ((by rw [hg]; exact Nat.ne_of_lt (blk_lt (g := gb182) (o := .cells #[.int .i64 a0_0, .slice A0_1 l0_1.length c0_1] 30 (0, 0)) (by (with_reducible repeat (first | refine blk_drewN ?_ _ | refine blk_drew ?_ | refine blk_alloc ?_ _)); exact BK182.out)) : gb182 ≠ gb183)); have n6_ := Aside0.mk ((by rw [hg]; exact Nat.ne_of_gt (blk_lt (g := gb182) (o := .cells #[.int .i64 a0_0, .slice A0_1 l0_1.length c0_1] 30 (0, 0)) (by (with_reducible repeat (first | refine blk_drewN ?_ _ | refine blk_drew ?_ | refine blk_alloc ?_ _)); exact BK182.out)) : gb183 ≠ gb182)); clear BK182; clear HB; have BK182 := n0_; have HB := n1_; have BK183 := n2_; have GW183 := n3_; have GE183 := n4_; have NB182_183 := n5_; have NB183_182 := n6_; clear n0_ n1_ n2_ n3_ n4_ n5_ n6_; clear hb hbox hg; have hnb4 := NB182_183.out; have hnc4 := NB183_182.out; have hcz5_0 : w3.cell? ⟨gb182, 0, none⟩ = some (.int .i64 a0_0) := (blk_cell BK182.out 0).trans rfl; have hcz5_1 : w3.cell? ⟨gb182, 1, none⟩ = some (.slice A0_1 l0_1.length c0_1) := (blk_cell BK182.out 1).trans rfl; have hfz5_0 := blk_frozen BK182.out 0; have hfz5_1 := blk_frozen BK182.out 1) | ((with_reducible refine gate_dst (N := 3) rfl ?_); (try (refine gate_guard (by rfl) ?_; dsimp only)); refine box_event ?hg (N := 3) ?hd (cs := #[.int .i64 0, .slice none 0 0]) (t := 24) ?hr ?_; (case hd => rfl); (case hg => rfl); (case hr => first | (go_simp; done) | (go_simp; rfl)); intro gb184 hg w6 hbox hb; have n0_ := Aside0.mk (blk_below (g := gb182) (o := .cells #[.int .i64 a0_0, .slice A0_1 l0_1.length c0_1] 30 (0, 0)) (by (with_reducible repeat (first | refine blk_drewN ?_ _ | refine blk_drew ?_ | refine blk_alloc ?_ _)); exact BK182.out) hb); have n1_ := Aside0.mk (blk_below (g := gb183) (o := .cells #[.int .i64 0, .slice none 0 0] 24 (0, 0)) (by (with_reducible repeat (first | refine blk_drewN ?_ _ | refine blk_drew ?_ | refine blk_alloc ?_ _)); exact BK183.out) hb); have n2_ := Aside0.mk (below_step (by repeat (first | (with_reducible first | exact HB.out | apply below_alloc | apply pw_below_drewN | apply below_drew1 | refine below_set ?_ GE182.out | refine below_set ?_ GE183.out) | exact HB.out)) hb); have n3_ := Aside0.mk (hbox); have n4_ := Aside0.mk ((by rw [hg]; exact (below_size (by repeat (first | (with_reducible first | exact HB.out | apply below_alloc | apply pw_below_drewN | apply below_drew1 | refine below_set ?_ GE182.out | refine below_set ?_ GE183.out) | exact HB.out))) : w.heap.size ≤ gb184)); have n5_ := Aside0.mk ((by rw [hg]; exact (below_size (by repeat (first | (with_reducible first | exact HB.out | apply below_alloc | apply pw_below_drewN | apply below_drew1 | refine below_set ?_ GE182.out | refine below_set ?_ GE183.out) | exact HB.out))) : w.heap.size ≤ gb184)); have n6_ := Aside0.mk ((by rw [hg]; exact Nat.ne_of_lt (blk_lt (g := gb182) (o := .cells #[.int .i64 a0_0, .slice A0_1 l0_1.length c0_1] 30 (0, 0)) (by (with_reducible repeat (first | refine blk_drewN ?_ _ | refine blk_drew ?_ | refine blk_alloc ?_ _)); exact BK182.out)) : gb182 ≠ gb184)); have n7_ := Aside0.mk ((by rw [hg]; exact Nat.ne_of_gt (blk_lt (g := gb182) (o := .cells #[.int .i64 a0_0, .slice A0_1 l0_1.length c0_1] 30 (0, 0)) (by (with_reducible repeat (first | refine blk_drewN ?_ _ | refine blk_drew ?_ | refine blk_alloc ?_ _)); exact BK182.out)) : gb184 ≠ gb182)); have n8_ := Aside0.mk ((by rw [hg]; exact Nat.ne_of_lt (blk_lt (g := gb183) (o := .cells #[.int .i64 0, .slice none 0 0] 24 (0, 0)) (by (with_reducible repeat (first | refine blk_drewN ?_ _ | refine blk_drew ?_ | refine blk_alloc ?_ _)); exact BK183.out)) : gb183 ≠ gb184)); have n9_ := Aside0.mk ((by rw [hg]; exact Nat.ne_of_gt (blk_lt (g := gb183) (o := .cells #[.int .i64 0, .slice none 0 0] 24 (0, 0)) (by (with_reducible repeat (first | refine blk_drewN ?_ _ | refine blk_drew ?_ | refine blk_alloc ?_ _)); exact BK183.out)) : gb184 ≠ gb183)); clear BK182; clear BK183; clear HB; have BK182 := n0_; have BK183 := n1_; have HB := n2_; have BK184 := n3_; have GW184 := n4_; have GE184 := n5_; have NB182_184 := n6_; have NB184_182 := n7_; have NB183_184 := n8_; have NB184_183 := n9_; clear n0_ n1_ n2_ n3_ n4_ n5_ n6_ n7_ n8_ n9_; clear hb hbox hg; have hnb7 := NB184_182.out; have hnc7 := NB182_184.out; have hnb8 := NB184_183.out; have hnc8 := NB183_184.out; have hcz9_0 : w6.cell? ⟨gb184, 0, none⟩ = some (.int .i64 0) := (blk_cell BK184.out 0).trans rfl; have hcz9_1 : w6.cell? ⟨gb184, 1, none⟩ = some (.slice none 0 0) := (blk_cell BK184.out 1).trans rfl; have hfz9_0 := blk_frozen BK184.out 0; have hfz9_1 := blk_frozen BK184.out 1))
  go_loopg [4] k (fun kq v4 w' => ∃ (x4_1 : Int) (x185001_1 : List (S24)) (u185001 : Value), v4 = .int .i64 x4_1 ∧ Aside0 (soriteslaw06_To.l0 kq x4_1 a0_0 l0_1 a0_0 x185001_1 = some (r1, r2)) ∧ Aside0 (kq ≤ k) ∧ Aside0 (Kd.R k24 24 w' w.heap.size (fun k_ => k_ ≠ gb183 ∧ k_ ≠ gb184) u185001 x185001_1) ∧ Aside0 (w'.heap[gb182]? = some (.cells #[.int .i64 a0_0, (.slice A0_1 l0_1.length c0_1)] 30 (0, 0))) ∧ Aside0 (w'.heap[gb183]? = some (.cells #[.int .i64 0, (.slice none 0 0)] 24 (0, 0))) ∧ Aside0 (w'.heap[gb184]? = some (.cells #[.int .i64 a0_0, u185001] 24 (0, 0))) ∧ Aside0 (Below w.heap.size w w'))
  case atStart => exact ⟨(0), (([] : List (S24))), (.slice none 0 0), (by first | rfl | (simp; done) | (simp [*]; done)), H', ⟨Nat.le_refl _⟩, ⟨by first | exact Kd.R_nil _ _ _ _ _ | exact Kd.N_nil _ _ _ _ _ | exact Kd.V_nil _ _ _ _ _ | exact Kd.Q_nil _ _ _ _ _ | exact Kd.S_nil _ _ _ _ _⟩, ⟨by (with_reducible repeat (first | refine blk_drewN ?_ _ | refine blk_drew ?_ | refine blk_alloc ?_ _)); refine blk_far ?_ NB182_184.out _; (with_reducible repeat (first | refine blk_drewN ?_ _ | refine blk_drew ?_ | refine blk_alloc ?_ _)); refine blk_far ?_ NB182_184.out _; (with_reducible repeat (first | refine blk_drewN ?_ _ | refine blk_drew ?_ | refine blk_alloc ?_ _)); exact BK182.out⟩, ⟨by (with_reducible repeat (first | refine blk_drewN ?_ _ | refine blk_drew ?_ | refine blk_alloc ?_ _)); refine blk_far ?_ NB183_184.out _; (with_reducible repeat (first | refine blk_drewN ?_ _ | refine blk_drew ?_ | refine blk_alloc ?_ _)); refine blk_far ?_ NB183_184.out _; (with_reducible repeat (first | refine blk_drewN ?_ _ | refine blk_drew ?_ | refine blk_alloc ?_ _)); exact BK183.out⟩, ⟨by (with_reducible repeat (first | refine blk_drewN ?_ _ | refine blk_drew ?_ | refine blk_alloc ?_ _)); refine blk_put (cs := #[.int .i64 a0_0, .slice none 0 0]) ?_ 1 _ rfl; (with_reducible repeat (first | refine blk_drewN ?_ _ | refine blk_drew ?_ | refine blk_alloc ?_ _)); refine blk_put (cs := #[.int .i64 0, .slice none 0 0]) ?_ 0 _ rfl; (with_reducible repeat (first | refine blk_drewN ?_ _ | refine blk_drew ?_ | refine blk_alloc ?_ _)); exact BK184.out⟩, ⟨by repeat (first | (with_reducible first | exact HB.out | apply below_alloc | apply pw_below_drewN | apply below_drew1 | refine below_set ?_ GE182.out | refine below_set ?_ GE183.out | refine below_set ?_ GE184.out) | exact HB.out)⟩⟩
  case round =>
    clear H'
    try clear c2
    try clear p2
    try clear c4
    try clear c7
    try clear c8
    try clear hcz5_0
    try clear hcz5_1
    try clear hcz9_0
    try clear hcz9_1
    try clear hfz5_0
    try clear hfz5_1
    try clear hfz9_0
    try clear hfz9_1
    obtain ⟨x4_1, x185001_1, u185001, rfl, HA, HK1, HO_185001, BK182, BK183, BK184, HB⟩ := hrel
    cases gk with
    | zero => exact absurd HA.out (by simp [soriteslaw06_To.l0])
    | succ k1 =>
      have H := HA.out
      clear HA
      simp only [soriteslaw06_To.l0] at H
      by_cases c10 : a0_0 ≥ 0
      · rw [if_pos c10] at H
        have c10b0 : decide (0 ≤ a0_0) = true := decide_eq_true c10
        clear c10
        by_cases c11 : x4_1 < (l0_1.length : Int)
        · rw [if_pos c11] at H
          have c11b0 : decide (x4_1 < (l0_1.length : Int)) = true := decide_eq_true c11
          clear c11
          by_cases c12 : 0 ≤ x4_1
          · rw [if_pos c12] at H
            have c12b0 : decide (0 ≤ x4_1) = true := decide_eq_true c12
            clear c12
            replace H := Option.bind_eq_some_iff.mp H
            obtain ⟨⟨t186, t187⟩, A130, H⟩ := H
            replace H : (if x185001_1.length < 4398046511104 then (soriteslaw06_To.l0 k1 (wrap64 (x4_1 + 1)) a0_0 l0_1 a0_0 (x185001_1 ++ [(⟨t186, t187⟩ : S24)])) else (none)) = some (r1, r2) := H
            have A13 := Aside0.mk A130
            clear A130
            by_cases c14 : x185001_1.length < 4398046511104
            · rw [if_pos c14] at H
              have LMc14 := Aside0.mk c14
              clear c14
              obtain ⟨y190, hy190⟩ : ∃ y_ : List (S24), y_ = (x185001_1 ++ [(⟨t186, t187⟩ : S24)]) := ⟨_, rfl⟩
              replace H : (soriteslaw06_To.l0 k1 (wrap64 (x4_1 + 1)) a0_0 l0_1 a0_0 y190) = some (r1, r2) := by first | (rw [hy190]; with_reducible exact H) | (have H2_ := (Option.bind_some _ _).symm.trans H; rw [hy190]; with_reducible exact H2_) | (have H2_ := (Option.bind_some _ _).symm.trans H; with_reducible exact H2_) | with_reducible exact H | (rw [hy190]; exact H) | exact H
              have Ny190 := Aside0.mk hy190
              clear hy190
              have H' := Aside0.mk H
              clear H
              have hnb15 := NB182_183.out
              have hnc15 := NB183_182.out
              have hnb16 := NB182_184.out
              have hnc16 := NB184_182.out
              have hcz17_0 : wr.cell? ⟨gb182, 0, none⟩ = some (.int .i64 a0_0) := (blk_cell BK182.out 0).trans rfl
              have hcz17_1 : wr.cell? ⟨gb182, 1, none⟩ = some (.slice A0_1 l0_1.length c0_1) := (blk_cell BK182.out 1).trans rfl
              have hfz17_0 := blk_frozen BK182.out 0
              have hfz17_1 := blk_frozen BK182.out 1
              try go_wp2
              have n0_ := Aside0.mk (Kd.R_drew HO_185001.out)
              have n1_ := Aside0.mk (blk_drew BK182.out)
              have n2_ := Aside0.mk (blk_drew BK183.out)
              have n3_ := Aside0.mk (blk_drew BK184.out)
              have n4_ := Aside0.mk (below_drew1 HB.out)
              clear HO_185001
              clear BK182
              clear BK183
              clear BK184
              clear HB
              have HO_185001 := n0_
              have BK182 := n1_
              have BK183 := n2_
              have BK184 := n3_
              have HB := n4_
              clear n0_ n1_ n2_ n3_ n4_
              have p185 : 0 ≤ (x4_1 : Int) := of_decide_eq_true (by first | (with_reducible assumption) | assumption)
              have q185 : x4_1 < (l0_1.length : Int) := of_decide_eq_true (by first | (with_reducible assumption) | assumption)
              obtain ⟨ad185, A185_1, c185_1, e185, hx185_0, hx185_1, hl185_1, hi185_1⟩ := at_T30 HR0_1.out x4_1 p185 q185
              have hw185_1 := hx185_1
              have hw185_0 := hx185_0
              cases e185
              replace hx185_0 := (HB.out.cell (World.block_lt_of_cell? w _ hx185_0)).trans hx185_0
              replace hx185_1 := (HB.out.cell (World.block_lt_of_cell? w _ hx185_1)).trans hx185_1
              have HR185_1 := Aside0.mk hi185_1
              have HC185_1 := Aside0.mk hl185_1
              clear hi185_1 hl185_1
              replace p185 := eq_true p185
              replace q185 := eq_true q185
              refine start_ (n := 12) (S := fun w' => w'.cell? ⟨gb184, 0, none⟩ = some (.int .i64 a0_0) ∧ w'.cell? ⟨gb184, 1, none⟩ = some (u185001) ∧ w'.cell? ⟨gb182, 0, none⟩ = some (.int .i64 a0_0) ∧ w'.cell? ⟨gb182, 1, none⟩ = some (.slice (some ad185) l0_1.length c0_1) ∧ w'.cell? (ad185.add ((x4_1).toNat * 2)) = some (.int .i64 ((rd_T30 l0_1 x4_1).f0)) ∧ w'.cell? ⟨(ad185.add ((x4_1).toNat * 2)).block, (ad185.add ((x4_1).toNat * 2)).off + 1, none⟩ = some (.slice A185_1 ((rd_T30 l0_1 x4_1).f1).length c185_1)) (ds := [11]) #[false, false, false, false, false, false, false, false, false, false, false, false] (by kernel_rfl) rfl rfl ⟨(blk_cell BK184.out 0).trans rfl, (blk_cell BK184.out 1).trans rfl, (blk_cell BK182.out 0).trans rfl, (blk_cell BK182.out 1).trans rfl, ((HB.out.cell (World.block_lt_of_cell? w _ hw185_0)).trans hw185_0), ((HB.out.cell (World.block_lt_of_cell? w _ hw185_1)).trans hw185_1)⟩ (fun hHeld => ?_); refine with_tabW soriteslaw06_To.tab5 soriteslaw06_To.bits5 (fun HT_ HW_ => ?_)
              generalize wr.drew = w18 at HO_185001 BK182 BK183 BK184 HB HR185_1 hx185_0 hx185_1 hHeld ⊢
              refine pure_ (i := 0) (N := some 20) (v := ?_) (a' := ?_) #[true, false, false, false, false, false, false, false, false, false, false, false] rfl rfl (any_of HT_.out (by kernel_rfl)) (fun _ _ _ h => h) (Or.inl ⟨by rfl, ?_⟩) ?_ ?_
              rotate_left
              · intro w'
                go_simp
                with_reducible rfl
              rotate_left
              · simp only [Act.put, List.setIfInBounds_toArray, List.set_cons_zero, List.set_cons_succ, i64_w, i32_w]
                rfl
              refine pure_ (i := 2) (N := some 22) (v := ?_) (a' := ?_) #[true, false, true, false, false, false, false, false, false, false, false, false] rfl rfl (any_of HT_.out (by kernel_rfl)) (fun _ _ _ h => h) (Or.inl ⟨by rfl, ?_⟩) ?_ ?_
              rotate_left
              · intro w'
                go_simp
                with_reducible rfl
              rotate_left
              · simp only [Act.put, List.setIfInBounds_toArray, List.set_cons_zero, List.set_cons_succ, i64_w, i32_w]
                rfl
              refine pure_ (i := 4) (N := some 24) (v := ?_) (a' := ?_) #[true, false, true, false, true, false, false, false, false, false, false, false] rfl rfl (any_of HT_.out (by kernel_rfl)) (fun _ _ _ h => h) (Or.inl ⟨by rfl, ?_⟩) ?_ ?_
              rotate_left
              · intro w'
                go_simp
                with_reducible rfl
              rotate_left
              · simp only [Act.put, List.setIfInBounds_toArray, List.set_cons_zero, List.set_cons_succ, i64_w, i32_w]
                rfl
              refine take_ (i := 1) (N := some 21) (v := ?_) (a' := ?_) #[true, true, true, false, true, false, false, false, false, false, false, false] rfl rfl (take_ofW HT_.out HW_.out (by kernel_rfl)) (fun _ _ _ h => h) (Or.inl ⟨by rfl, ?_⟩) hHeld ?_ ?_
              rotate_left
              · rintro w' ⟨s0, s1, s2, s3, s4, s5⟩
                go_simp
                with_reducible rfl
              rotate_left
              · simp only [Act.put, List.setIfInBounds_toArray, List.set_cons_zero, List.set_cons_succ, i64_w, i32_w]
                rfl
              refine take_ (i := 3) (N := some 23) (v := ?_) (a' := ?_) #[true, true, true, true, true, false, false, false, false, false, false, false] rfl rfl (take_ofW HT_.out HW_.out (by kernel_rfl)) (fun _ _ _ h => h) (Or.inl ⟨by rfl, ?_⟩) hHeld ?_ ?_
              rotate_left
              · rintro w' ⟨s0, s1, s2, s3, s4, s5⟩
                go_simp
                with_reducible rfl
              rotate_left
              · simp only [Act.put, List.setIfInBounds_toArray, List.set_cons_zero, List.set_cons_succ, i64_w, i32_w]
                rfl
              refine pure_ (i := 5) (N := some 25) (v := ?_) (a' := ?_) #[true, true, true, true, true, true, false, false, false, false, false, false] rfl rfl (any_of HT_.out (by kernel_rfl)) (fun _ _ _ h => h) (Or.inl ⟨by rfl, ?_⟩) ?_ ?_
              rotate_left
              · intro w'
                go_simp
                with_reducible rfl
              rotate_left
              · simp only [Act.put, List.setIfInBounds_toArray, List.set_cons_zero, List.set_cons_succ, i64_w, i32_w]
                rfl
              refine take_ (i := 6) (N := some 26) (v := ?_) (a' := ?_) #[true, true, true, true, true, true, true, false, false, false, false, false] rfl rfl (take_ofW HT_.out HW_.out (by kernel_rfl)) (fun _ _ _ h => h) (Or.inl ⟨by rfl, ?_⟩) hHeld ?_ ?_
              rotate_left
              · rintro w' ⟨s0, s1, s2, s3, s4, s5⟩
                go_simp
                with_reducible rfl
              rotate_left
              · simp only [Act.put, List.setIfInBounds_toArray, List.set_cons_zero, List.set_cons_succ, i64_w, i32_w]
                rfl
              refine one_ (i := 7) (N := some 27) #[true, true, true, true, true, true, true, true, false, false, false, false] rfl rfl (one_of HT_.out (by kernel_rfl)) (by decide) (fun K hK => ?_)
              refine goes_ Try.func29 (by kernel_rfl) rfl #[.agg #[.int .i64 ((rd_T30 l0_1 x4_1).f0), .slice A185_1 ((rd_T30 l0_1 x4_1).f1).length c185_1]] (by rfl) rfl rfl (by (try simp only [List.map_toArray, List.map_cons, List.map_nil]); first | done | rfl | (simp only [List.length_drop, List.length_take]; rfl)) ?_
              with_reducible refine (ih k1 (by have := HK1.out; omega) ((rd_T30 l0_1 x4_1).f0) _ _ ((rd_T30 l0_1 x4_1).f1) t186 t187 _ ?side1 ?side2 A13.out).mono ?_
              (case side1 => repeat (first | exact (Kd.C_below HR185_1.out HB.out) | (with_reducible refine Kd.C_alloc ?_ _) | (with_reducible refine Kd.C_drewN ?_ _) | (with_reducible refine Kd.C_drew ?_)))
              (case side2 => exact HC185_1.out)
              rintro e w19 ⟨v188, rfl, ho0, hb⟩
              refine ⟨_, rfl, ?_⟩
              have n0_ := Aside0.mk (Kd.R_elder' (by (with_reducible repeat (first | apply Kd.R_alloc | apply Kd.R_drewN | apply Kd.R_drew)); exact HO_185001.out) (Kd.R_base ho0) hb)
              have n1_ := Aside0.mk (Kd.R_lower (Kd.R_newB (Kd.R_newB (Kd.R_new' ho0 (Kd.R_lt (by (with_reducible repeat (first | apply Kd.R_alloc | apply Kd.R_drewN | apply Kd.R_drew)); exact HO_185001.out))) (g := gb183) (o := .cells #[.int .i64 0, .slice none 0 0] 24 (0, 0)) (by (with_reducible repeat (first | refine blk_drewN ?_ _ | refine blk_drew ?_ | refine blk_alloc ?_ _)); exact BK183.out)) (g := gb184) (o := .cells #[.int .i64 a0_0, u185001] 24 (0, 0)) (by (with_reducible repeat (first | refine blk_drewN ?_ _ | refine blk_drew ?_ | refine blk_alloc ?_ _)); exact BK184.out)) (below_size (by repeat (first | (with_reducible first | exact HB.out | apply below_alloc | apply pw_below_drewN | apply below_drew1 | refine below_set ?_ GE182.out | refine below_set ?_ GE183.out | refine below_set ?_ GE184.out) | exact HB.out))))
              have n2_ := Aside0.mk (blk_below (g := gb182) (o := .cells #[.int .i64 a0_0, .slice (some ad185) l0_1.length c0_1] 30 (0, 0)) (by (with_reducible repeat (first | refine blk_drewN ?_ _ | refine blk_drew ?_ | refine blk_alloc ?_ _)); exact BK182.out) hb)
              have n3_ := Aside0.mk (blk_below (g := gb183) (o := .cells #[.int .i64 0, .slice none 0 0] 24 (0, 0)) (by (with_reducible repeat (first | refine blk_drewN ?_ _ | refine blk_drew ?_ | refine blk_alloc ?_ _)); exact BK183.out) hb)
              have n4_ := Aside0.mk (blk_below (g := gb184) (o := .cells #[.int .i64 a0_0, u185001] 24 (0, 0)) (by (with_reducible repeat (first | refine blk_drewN ?_ _ | refine blk_drew ?_ | refine blk_alloc ?_ _)); exact BK184.out) hb)
              have n5_ := Aside0.mk (below_step (by repeat (first | (with_reducible first | exact HB.out | apply below_alloc | apply pw_below_drewN | apply below_drew1 | refine below_set ?_ GE182.out | refine below_set ?_ GE183.out | refine below_set ?_ GE184.out) | exact HB.out)) hb)
              clear HO_185001
              clear BK182
              clear BK183
              clear BK184
              clear HB
              have HO_185001 := n0_
              have HO189 := n1_
              have BK182 := n2_
              have BK183 := n3_
              have BK184 := n4_
              have HB := n5_
              clear n0_ n1_ n2_ n3_ n4_ n5_
              (try clear hb)
              (try clear hb2)
              (try clear hk)
              (try clear hi)
              (try clear ho0)
              obtain ⟨Ao21, co21, eo21⟩ := Kd.R_slice HO189.out
              (first | subst eo21 | (injection eo21 with f1_ f2_ f3_; have f4_ := f1_.symm; have f5_ := f3_.symm; clear f1_ f2_ f3_; subst f4_; subst f5_))
              refine hK.out _ _ ⟨(blk_cell BK184.out 0).trans rfl, (blk_cell BK184.out 1).trans rfl, (blk_cell BK182.out 0).trans rfl, (blk_cell BK182.out 1).trans rfl, ((HB.out.cell (World.block_lt_of_cell? w _ hw185_0)).trans hw185_0), ((HB.out.cell (World.block_lt_of_cell? w _ hw185_1)).trans hw185_1)⟩ (fun hHeld => ?_)
              clear hK K
              refine norm_ (a' := ?_) ?_ ?_
              rotate_left
              · show Act.put _ (some 27) _ = _
                simp only [Act.put, List.setIfInBounds_toArray, List.set_cons_zero, List.set_cons_succ, i64_w, i32_w]
                rfl
              refine one_ (i := 8) (N := some 28) #[true, true, true, true, true, true, true, true, true, false, false, false] rfl rfl (one_of HT_.out (by kernel_rfl)) (by decide) (fun K hK => ?_)
              refine value_ (w1 := ?_) (v := ?_) (by rfl) rfl ?_ ?_
              rotate_left 2
              · go_simp
                constructor
                · rfl
                · rfl
              refine hK.out _ _ ⟨(blk_cell (blk_alloc BK184.out _) 0).trans rfl, (blk_cell (blk_alloc BK184.out _) 1).trans rfl, (blk_cell (blk_alloc BK182.out _) 0).trans rfl, (blk_cell (blk_alloc BK182.out _) 1).trans rfl, (World.cell?_alloc_lt _ _ _ (World.block_lt_of_cell? _ _ (((HB.out.cell (World.block_lt_of_cell? w _ hw185_0)).trans hw185_0)))).trans (((HB.out.cell (World.block_lt_of_cell? w _ hw185_0)).trans hw185_0)), (World.cell?_alloc_lt _ _ _ (World.block_lt_of_cell? _ _ (((HB.out.cell (World.block_lt_of_cell? w _ hw185_1)).trans hw185_1)))).trans (((HB.out.cell (World.block_lt_of_cell? w _ hw185_1)).trans hw185_1))⟩ (fun hHeld => ?_)
              clear hK K
              refine norm_ (a' := ?_) ?_ ?_
              rotate_left
              · show Act.put _ (some 28) _ = _
                simp only [Act.put, List.setIfInBounds_toArray, List.set_cons_zero, List.set_cons_succ, i64_w, i32_w]
                rfl
              refine one_ (i := 9) (N := some 29) #[true, true, true, true, true, true, true, true, true, true, false, false] rfl rfl (one_of HT_.out (by kernel_rfl)) (by decide) (fun K hK => ?_)
              refine Kd.R_append_step k24 (w0 := w) w.heap.size (by rfl) (.tmp 21) (.tmp 28) 22 24 (.agg #[(.int .i64 0), (.slice none 0 0)]) 32 rfl Try.underlying22 info24 rfl (by decide) (by omega) u185001 x185001_1 (⟨t186, t187⟩ : S24) [.int .i64 t186, .slice Ao21 t187.length co21] (fun k_ => k_ ≠ gb183 ∧ k_ ≠ gb184) (fun k_ => ((fun k_ => k_ ≠ gb183 ∧ k_ ≠ gb184)) k_ ∧ some k_ ≠ (u185001 : Value).ownBlock) rfl rfl ?aP (fun _ hk => hk) ?aF ?aO ?aB ?aS ?aL ?_
              (case aP => exact k24_mkM _ _ _ (⟨t186, t187⟩ : S24) (Kd.R_mono (HO189.out) (fun k_ hk => ⟨⟨hk.1.2, hk.2⟩, hk.1.1.2⟩)))
              (case aB => exact (by repeat (first | (with_reducible first | exact HB.out | apply below_alloc | apply pw_below_drewN | apply below_drew1 | refine below_set ?_ GE182.out | refine below_set ?_ GE183.out | refine below_set ?_ GE184.out) | exact HB.out)))
              (case aF => exact (fun k_ hk => ⟨Kd.freshB (g := gb183) (o := .cells #[.int .i64 0, .slice none 0 0] 24 (0, 0)) (by (with_reducible repeat (first | refine blk_drewN ?_ _ | refine blk_drew ?_ | refine blk_alloc ?_ _)); exact BK183.out) k_ hk, Kd.freshB (g := gb184) (o := .cells #[.int .i64 a0_0, u185001] 24 (0, 0)) (by (with_reducible repeat (first | refine blk_drewN ?_ _ | refine blk_drew ?_ | refine blk_alloc ?_ _)); exact BK184.out) k_ hk⟩))
              (case aO => exact (by (with_reducible repeat (first | apply Kd.R_alloc | apply Kd.R_drewN | apply Kd.R_drew)); exact Kd.R_mono HO_185001.out (fun _ hk => ⟨hk.1.1, hk.1.2⟩)))
              (case aS => exact (below_size (by repeat (first | (with_reducible first | exact HB.out | apply below_alloc | apply pw_below_drewN | apply below_drew1 | refine below_set ?_ GE182.out | refine below_set ?_ GE183.out | refine below_set ?_ GE184.out) | exact HB.out))))
              (case aL => have := LMc14.out; omega)
              intro v191 w20 ho hb hg hat
              rw [← Ny190.out] at ho
              have n0_ := Aside0.mk (blk_grown (g := gb182) (o := .cells #[.int .i64 a0_0, .slice (some ad185) l0_1.length c0_1] 30 (0, 0)) (by (with_reducible repeat (first | refine blk_drewN ?_ _ | refine blk_drew ?_ | refine blk_alloc ?_ _)); exact BK182.out) hg (Kd.R_ne HO_185001.out BK182.out (by decide)))
              have n1_ := Aside0.mk (blk_grown (g := gb183) (o := .cells #[.int .i64 0, .slice none 0 0] 24 (0, 0)) (by (with_reducible repeat (first | refine blk_drewN ?_ _ | refine blk_drew ?_ | refine blk_alloc ?_ _)); exact BK183.out) hg (Kd.R_away HO_185001.out (fun _ hk => hk.1.1)))
              have n2_ := Aside0.mk (blk_grown (g := gb184) (o := .cells #[.int .i64 a0_0, u185001] 24 (0, 0)) (by (with_reducible repeat (first | refine blk_drewN ?_ _ | refine blk_drew ?_ | refine blk_alloc ?_ _)); exact BK184.out) hg (Kd.R_away HO_185001.out (fun _ hk => hk.1.2)))
              have n3_ := Aside0.mk (hb)
              have n4_ := Aside0.mk (ho)
              clear BK182
              clear BK183
              clear BK184
              clear HB
              clear HO_185001
              clear HO189
              have BK182 := n0_
              have BK183 := n1_
              have BK184 := n2_
              have HB := n3_
              have HO192 := n4_
              clear n0_ n1_ n2_ n3_ n4_
              clear ho hb hg hat
              obtain ⟨Ao22, co22, eo22⟩ := Kd.R_slice HO192.out
              (first | subst eo22 | (injection eo22 with f1_ f2_ f3_; have f4_ := f1_.symm; have f5_ := f3_.symm; clear f1_ f2_ f3_; subst f4_; subst f5_))
              refine hK.out _ _ ⟨(blk_cell BK184.out 0).trans rfl, (blk_cell BK184.out 1).trans rfl, (blk_cell BK182.out 0).trans rfl, (blk_cell BK182.out 1).trans rfl, ((HB.out.cell (World.block_lt_of_cell? w _ hw185_0)).trans hw185_0), ((HB.out.cell (World.block_lt_of_cell? w _ hw185_1)).trans hw185_1)⟩ (fun hHeld => ?_)
              clear hK K
              refine norm_ (a' := ?_) ?_ ?_
              rotate_left
              · show Act.put _ (some 29) _ = _
                simp only [Act.put, List.setIfInBounds_toArray, List.set_cons_zero, List.set_cons_succ, i64_w, i32_w]
                rfl
              refine pure_ (i := 10) (N := some 30) (v := ?_) (a' := ?_) #[true, true, true, true, true, true, true, true, true, true, true, false] rfl rfl (any_of HT_.out (by kernel_rfl)) (fun _ _ _ h => h) (Or.inl ⟨by rfl, ?_⟩) ?_ ?_
              rotate_left
              · intro w'
                go_simp
                with_reducible rfl
              rotate_left
              · simp only [Act.put, List.setIfInBounds_toArray, List.set_cons_zero, List.set_cons_succ, i64_w, i32_w]
                rfl
              refine last_ (i := 11) (N := none) #[true, true, true, true, true, true, true, true, true, true, true, true] rfl rfl (one_of HT_.out (by kernel_rfl)) (by decide) (fun K hK => ?_)
              have hs23 : w20.cell? ⟨gb184, 1, none⟩ = some (u185001) := (blk_cell BK184.out 1).trans rfl
              have hfs23 := blk_frozen BK184.out 1
              have hns23_0 := NB182_184.out
              have hns23_1 := NB183_184.out
              have hms23_0 := NB184_182.out
              have hms23_1 := NB184_183.out
              refine skip_ (w1 := ?_) (by rfl) rfl ?_ ?_
              rotate_left
              · go_simp
                rfl
              refine hK.out _ _ ?_
              clear hK K
              refine done_ (done_of HT_.out (by kernel_rfl)) ?_
              try go_wp2
              go_roundg k1
              case measure => have := HK1.out; omega
              case rel => exact ⟨(wrap64 (x4_1 + 1)), (y190), (.slice Ao22 y190.length co22), (by first | rfl | (simp; done) | (simp [*]; done)), H', ⟨by have := HK1.out; omega⟩, ⟨by (with_reducible repeat (first | apply Kd.R_alloc | apply Kd.R_drewN | apply Kd.R_drew)); exact Kd.R_mono (Kd.R_far (p := ⟨gb184, 1, none⟩) (Kd.R_mono HO192.out (fun k_ hk => (⟨hk, hk.2⟩ : _ ∧ k_ ≠ gb184))) (fun _ hk => hk.2) (.slice Ao22 y190.length co22)) (fun _ hk => ⟨hk.1.1, hk.1.2⟩)⟩, ⟨by (with_reducible repeat (first | refine blk_drewN ?_ _ | refine blk_drew ?_ | refine blk_alloc ?_ _)); refine blk_far ?_ NB182_184.out _; (with_reducible repeat (first | refine blk_drewN ?_ _ | refine blk_drew ?_ | refine blk_alloc ?_ _)); exact BK182.out⟩, ⟨by (with_reducible repeat (first | refine blk_drewN ?_ _ | refine blk_drew ?_ | refine blk_alloc ?_ _)); refine blk_far ?_ NB183_184.out _; (with_reducible repeat (first | refine blk_drewN ?_ _ | refine blk_drew ?_ | refine blk_alloc ?_ _)); exact BK183.out⟩, ⟨by (with_reducible repeat (first | refine blk_drewN ?_ _ | refine blk_drew ?_ | refine blk_alloc ?_ _)); refine blk_put (cs := #[.int .i64 a0_0, u185001]) ?_ 1 _ rfl; (with_reducible repeat (first | refine blk_drewN ?_ _ | refine blk_drew ?_ | refine blk_alloc ?_ _)); exact BK184.out⟩, ⟨by repeat (first | (with_reducible first | exact HB.out | apply below_alloc | apply pw_below_drewN | apply below_drew1 | refine below_set ?_ GE182.out | refine below_set ?_ GE183.out | refine below_set ?_ GE184.out) | exact HB.out)⟩⟩
            · rw [if_neg c14] at H
              exact absurd H (by simp)
          · rw [if_neg c12] at H
            exact absurd H (by simp)
        · rw [if_neg c11] at H
          have c11b0 : decide (x4_1 < (l0_1.length : Int)) = false := decide_eq_false c11
          clear c11
          simp only [Option.some.injEq, Prod.mk.injEq] at H
          obtain ⟨rfl, rfl⟩ := H
          have hnb24 := NB182_183.out
          have hnc24 := NB183_182.out
          have hnb25 := NB182_184.out
          have hnc25 := NB184_182.out
          have hcz26_0 : wr.cell? ⟨gb182, 0, none⟩ = some (.int .i64 a0_0) := (blk_cell BK182.out 0).trans rfl
          have hcz26_1 : wr.cell? ⟨gb182, 1, none⟩ = some (.slice A0_1 l0_1.length c0_1) := (blk_cell BK182.out 1).trans rfl
          have hfz26_0 := blk_frozen BK182.out 0
          have hfz26_1 := blk_frozen BK182.out 1
          have hnb27 := NB184_183.out
          have hnc27 := NB183_184.out
          have hcz28_0 : wr.cell? ⟨gb184, 0, none⟩ = some (.int .i64 a0_0) := (blk_cell BK184.out 0).trans rfl
          have hcz28_1 : wr.cell? ⟨gb184, 1, none⟩ = some (u185001) := (blk_cell BK184.out 1).trans rfl
          have hfz28_0 := blk_frozen BK184.out 0
          have hfz28_1 := blk_frozen BK184.out 1
          have hcz29_0 : wr.cell? ⟨gb183, 0, none⟩ = some (.int .i64 0) := (blk_cell BK183.out 0).trans rfl
          have hcz29_1 : wr.cell? ⟨gb183, 1, none⟩ = some (.slice none 0 0) := (blk_cell BK183.out 1).trans rfl
          have hfz29_0 := blk_frozen BK183.out 0
          have hfz29_1 := blk_frozen BK183.out 1
          obtain ⟨Ao30, co30, eo30⟩ := Kd.R_slice HO_185001.out
          subst eo30
          go_wp2
          refine bodyPost_ret (results_cell_row rfl _ _ gb183 24 #[.int .i64 a0_0, .slice Ao30 x185001_1.length co30] (0, 0) _ rfl (by (with_reducible repeat (first | refine blk_drewN ?_ _ | refine blk_drew ?_ | refine blk_alloc ?_ _)); refine blk_put (cs := #[.int .i64 a0_0, .slice none 0 0]) ?_ 1 _ rfl; (with_reducible repeat (first | refine blk_drewN ?_ _ | refine blk_drew ?_ | refine blk_alloc ?_ _)); refine blk_put (cs := #[.int .i64 0, .slice none 0 0]) ?_ 0 _ rfl; (with_reducible repeat (first | refine blk_drewN ?_ _ | refine blk_drew ?_ | refine blk_alloc ?_ _)); exact BK183.out) Try.underlying24 rfl (by kernel_rfl)) rfl ?_
          exact ⟨_, by first | rfl | (simp [errW_none, errW_some] <;> rfl) | (simp [*, errW_none, errW_some] <;> rfl), by (with_reducible repeat (first | apply Kd.R_alloc | apply Kd.R_drewN | apply Kd.R_drew)); exact Kd.R_mono (Kd.R_far (p := ⟨gb183, 1, none⟩) (Kd.R_far (p := ⟨gb183, 0, none⟩) (Kd.R_mono HO_185001.out (fun k_ hk => (⟨hk, hk.1⟩ : _ ∧ k_ ≠ gb183))) (fun _ hk => hk.2) (.int .i64 a0_0)) (fun _ hk => hk.2) (.slice Ao30 x185001_1.length co30)) (fun _ hk => trivial), by repeat (first | (with_reducible first | exact HB.out | apply below_alloc | apply pw_below_drewN | apply below_drew1 | refine below_set ?_ GE182.out | refine below_set ?_ GE183.out | refine below_set ?_ GE184.out) | exact HB.out)⟩
      · rw [if_neg c10] at H
        have c10b0 : decide (0 ≤ a0_0) = false := decide_eq_false c10
        clear c10
        simp only [Option.some.injEq, Prod.mk.injEq] at H
        obtain ⟨rfl, rfl⟩ := H
        have hnb31 := NB182_183.out
        have hnc31 := NB183_182.out
        have hnb32 := NB182_184.out
        have hnc32 := NB184_182.out
        have hcz33_0 : wr.cell? ⟨gb182, 0, none⟩ = some (.int .i64 a0_0) := (blk_cell BK182.out 0).trans rfl
        have hcz33_1 : wr.cell? ⟨gb182, 1, none⟩ = some (.slice A0_1 l0_1.length c0_1) := (blk_cell BK182.out 1).trans rfl
        have hfz33_0 := blk_frozen BK182.out 0
        have hfz33_1 := blk_frozen BK182.out 1
        have hnb34 := NB184_183.out
        have hnc34 := NB183_184.out
        have hcz35_0 : wr.cell? ⟨gb184, 0, none⟩ = some (.int .i64 a0_0) := (blk_cell BK184.out 0).trans rfl
        have hcz35_1 : wr.cell? ⟨gb184, 1, none⟩ = some (u185001) := (blk_cell BK184.out 1).trans rfl
        have hfz35_0 := blk_frozen BK184.out 0
        have hfz35_1 := blk_frozen BK184.out 1
        have hcz36_0 : wr.cell? ⟨gb183, 0, none⟩ = some (.int .i64 0) := (blk_cell BK183.out 0).trans rfl
        have hcz36_1 : wr.cell? ⟨gb183, 1, none⟩ = some (.slice none 0 0) := (blk_cell BK183.out 1).trans rfl
        have hfz36_0 := blk_frozen BK183.out 0
        have hfz36_1 := blk_frozen BK183.out 1
        obtain ⟨Ao37, co37, eo37⟩ := Kd.R_slice HO_185001.out
        subst eo37
        go_wp2
        refine bodyPost_ret (results_cell_row rfl _ _ gb183 24 #[.int .i64 a0_0, .slice Ao37 x185001_1.length co37] (0, 0) _ rfl (by (with_reducible repeat (first | refine blk_drewN ?_ _ | refine blk_drew ?_ | refine blk_alloc ?_ _)); refine blk_put (cs := #[.int .i64 a0_0, .slice none 0 0]) ?_ 1 _ rfl; (with_reducible repeat (first | refine blk_drewN ?_ _ | refine blk_drew ?_ | refine blk_alloc ?_ _)); refine blk_put (cs := #[.int .i64 0, .slice none 0 0]) ?_ 0 _ rfl; (with_reducible repeat (first | refine blk_drewN ?_ _ | refine blk_drew ?_ | refine blk_alloc ?_ _)); exact BK183.out) Try.underlying24 rfl (by kernel_rfl)) rfl ?_
        exact ⟨_, by first | rfl | (simp [errW_none, errW_some] <;> rfl) | (simp [*, errW_none, errW_some] <;> rfl), by (with_reducible repeat (first | apply Kd.R_alloc | apply Kd.R_drewN | apply Kd.R_drew)); exact Kd.R_mono (Kd.R_far (p := ⟨gb183, 1, none⟩) (Kd.R_far (p := ⟨gb183, 0, none⟩) (Kd.R_mono HO_185001.out (fun k_ hk => (⟨hk, hk.1⟩ : _ ∧ k_ ≠ gb183))) (fun _ hk => hk.2) (.int .i64 a0_0)) (fun _ hk => hk.2) (.slice Ao37 x185001_1.length co37)) (fun _ hk => trivial), by repeat (first | (with_reducible first | exact HB.out | apply below_alloc | apply pw_below_drewN | apply below_drew1 | refine below_set ?_ GE182.out | refine below_set ?_ GE183.out | refine below_set ?_ GE184.out) | exact HB.out)⟩
end Go.Proofs.Ytpfddihcikiofaa.P
end

section
namespace Go.Proofs.Ytpfddihcikiofaa.P
open Go.RowKit Go.Proofs.YtpfddihcikiofaaW.PrintWords Go.Proofs.YtpfddihcikiofaaW.PrintLast Go.Proofs.YtpfddihcikiofaaW.PrintMore
set_option linter.unusedVariables false
set_option linter.unusedSimpArgs false
def fit (t : S30) : Prop := (nodes t).length ≤ 1000000 ∧ SmallN t
theorem nodes_pos (t : S30) : 1 ≤ (nodes t).length := by
  obtain ⟨f, l⟩ := t
  simp [nodes]
theorem nodess_len_le : ∀ l : List S30, l.length ≤ (nodess l).length
  | [] => by simp
  | x :: r => by
    have := nodes_pos x
    have := nodess_len_le r
    simp only [nodess, List.length_append, List.length_cons]
    omega
theorem nodess_one_le {l : List S30} {x : S30} (h : x ∈ l) : (nodes x).length ≤ (nodess l).length := by
  induction l with
  | nil => cases h
  | cons z l ih =>
    rw [nodess, List.length_append]
    rcases List.mem_cons.1 h with rfl | h
    · omega
    · have := ih h; omega
theorem fit_sub {f : Int} {l : List S30} (hf : ¬ f < 0) (h : fit ⟨f, l⟩) : l.length ≤ 1000000 ∧ ∀ x ∈ l, fit x := by
  have hn : nodes ⟨f, l⟩ = ⟨f, l⟩ :: nodess l := by simp [nodes, hf]
  have h1 := h.1
  rw [hn, List.length_cons] at h1
  refine ⟨by have := nodess_len_le l; omega, fun x hx => ⟨by have := nodess_one_le hx; omega, fun y hy => h.2 y (by rw [hn]; exact List.mem_cons_of_mem _ (nodess_mem hx hy))⟩⟩
theorem rd24_at (l : List S30) (k : Nat) (h : k < l.length) : rd_T24 l (k : Int) = l[k] := rdC_at l k h
theorem cmpI_ne {a b : Int} (h : a ≠ b) : cmpI a b ≠ 0 := by unfold cmpI; (repeat' split) <;> omega
theorem cmpTs_drop (l m : List S30) (k : Nat) (hl : k < l.length) (hm : k < m.length) : cmpTs (l.drop k) (m.drop k) = if cmpT l[k] m[k] = 0 then cmpTs (l.drop (k + 1)) (m.drop (k + 1)) else cmpT l[k] m[k] := by
  rw [List.drop_eq_getElem_cons hl, List.drop_eq_getElem_cons hm, cmpTs]
theorem wsucc (i n : Nat) (h : i < n) (hn : n ≤ 1000000000) : wrap64 ((i : Int) + 1) = ((i + 1 : Nat) : Int) := by rw [w64 _ (by omega)]; omega
theorem RSame_spec : ∀ a b : S30, fit a → Ev (fun k => soritesref06_Same.f k a.f0 a.f1 b.f0 b.f1) (cmpT a b == 0) := by
  refine S30.ind ?_
  intro f l ih b hfit
  obtain ⟨g, m⟩ := b
  by_cases hfg : f = g
  · subst hfg
    by_cases hf : f < 0
    · refine Ev.step (f := fun _ => some true) (fun k => ?_) ?_
      · rw [soritesref06_Same.f, if_pos rfl, if_pos hf]
      · have : cmpT ⟨f, l⟩ ⟨f, m⟩ = 0 := by simp [cmpT, hf, cmpI_self]
        rw [this]; exact Ev.now _
    · obtain ⟨hll, hsub⟩ := fit_sub hf hfit
      by_cases hlm : l.length = m.length
      · have hc : cmpT ⟨f, l⟩ ⟨f, m⟩ = cmpTs l m := by simp [cmpT, hf, cmpI_self, hlm, orI]
        rw [hc]
        refine Ev.step (f := fun k => soritesref06_Same.l0 k 0 f l f m) (fun k => ?_) ?_
        · rw [soritesref06_Same.f, if_pos rfl, if_neg hf, if_pos (by simp [hlm])]
        · have key : ∀ n i, l.length - i = n → i ≤ l.length → Ev (fun k => soritesref06_Same.l0 k (i : Int) f l f m) (cmpTs (l.drop i) (m.drop i) == 0) := by
            intro n
            induction n with
            | zero =>
              intro i hi hle
              refine Ev.step (f := fun _ => some true) (fun k => ?_) ?_
              · rw [soritesref06_Same.l0, if_neg (by omega)]
              · rw [List.drop_of_length_le (by omega), List.drop_of_length_le (by omega)]; exact Ev.now _
            | succ n ihn =>
              intro i hi hle
              have hlt : i < l.length := by omega
              have hltm : i < m.length := by omega
              have hmem := List.getElem_mem hlt
              refine Ev.step (f := fun k => (soritesref06_Same.f k l[i].f0 l[i].f1 m[i].f0 m[i].f1).bind fun t => if t = true then soritesref06_Same.l0 k ((i + 1 : Nat) : Int) f l f m else some false) (fun k => ?_) (Ev.bind (ih l[i] hmem m[i] (hsub _ hmem)) ?_)
              · rw [soritesref06_Same.l0, if_pos (by omega), if_pos (by omega), if_pos (by omega), rd24_at l i hlt, rd24_at m i hltm, wsucc i l.length hlt (by omega)]
              · rw [cmpTs_drop l m i hlt hltm]
                by_cases h0 : cmpT l[i] m[i] = 0
                · simp only [h0, beq_self_eq_true, if_true]
                  exact ihn (i + 1) (by omega) (by omega)
                · rw [if_neg h0]
                  have : (cmpT l[i] m[i] == 0) = false := by simpa using h0
                  simp only [this, Bool.false_eq_true, if_false]
                  exact Ev.now _
          have := key l.length 0 rfl (by omega)
          simpa using this
      · refine Ev.step (f := fun _ => some false) (fun k => ?_) ?_
        · rw [soritesref06_Same.f, if_pos rfl, if_neg hf, if_neg (by simpa using fun h => hlm (by omega))]
        · have h1 : cmpI (l.length : Int) m.length ≠ 0 := cmpI_ne (by omega)
          have : (cmpT ⟨f, l⟩ ⟨f, m⟩ == 0) = false := by simp [cmpT, hf, cmpI_self, orI, h1]
          rw [this]; exact Ev.now _
  · refine Ev.step (f := fun _ => some false) (fun k => ?_) ?_
    · rw [soritesref06_Same.f, if_neg hfg]
    · have h1 := cmpI_ne hfg
      have h2 := cmpI_ne (fun e => hfg e.symm)
      have : (cmpT ⟨f, l⟩ ⟨g, m⟩ == 0) = false := by
        simp only [cmpT, beq_eq_false_iff_ne]
        split
        · split
          · exact h2
          · exact h1
        · unfold orI; rw [if_neg h1]; exact h1
      rw [this]; exact Ev.now _
theorem RLess_spec : ∀ a b : S30, fit a → Ev (fun k => soritesref06_Less.f k a.f0 a.f1 b.f0 b.f1) (cmpT a b == -1) := by
  refine S30.ind ?_
  intro f l ih b hfit
  obtain ⟨g, m⟩ := b
  by_cases hneg : f < 0 ∧ g < 0
  · refine Ev.step (f := fun k => soritesref06_Less.j0 k true f l g m) (fun k => ?_) (Ev.step (f := fun _ => some (decide (f > g))) (fun k => ?_) ?_)
    · rw [soritesref06_Less.f, if_pos hneg.1, decide_eq_true hneg.2]
    · rw [soritesref06_Less.j0, if_pos rfl]
    · have : (cmpT ⟨f, l⟩ ⟨g, m⟩ == -1) = decide (f > g) := by
        simp only [cmpT, hneg.1, hneg.2, or_self, and_self, if_true, cmpI]
        by_cases h1 : g < f
        · simp [h1]
        · rw [if_neg h1]
          by_cases h2 : g > f
          · rw [if_pos h2]; simp; omega
          · rw [if_neg h2]; simp; omega
      rw [this]; exact Ev.now _
  · have hj : ∀ k, soritesref06_Less.f (k + 1) f l g m = soritesref06_Less.j0 k false f l g m := fun k => by
      rw [soritesref06_Less.f]
      by_cases hf : f < 0
      · rw [if_pos hf, decide_eq_false (fun hg => hneg ⟨hf, hg⟩)]
      · rw [if_neg hf]
    refine Ev.step (f := fun k => soritesref06_Less.j0 k false f l g m) hj ?_
    by_cases hfg : f = g
    · subst hfg
      have hf : ¬ f < 0 := fun h => hneg ⟨h, h⟩
      obtain ⟨hll, hsub⟩ := fit_sub hf hfit
      by_cases hlm : l.length = m.length
      · have hc : cmpT ⟨f, l⟩ ⟨f, m⟩ = cmpTs l m := by simp [cmpT, hf, cmpI_self, hlm, orI]
        rw [hc]
        refine Ev.step (f := fun k => soritesref06_Less.l0 k 0 f l f m) (fun k => ?_) ?_
        · rw [soritesref06_Less.j0, if_neg (by decide), if_pos rfl, if_pos (by simp [hlm])]
        · have key : ∀ n i, l.length - i = n → i ≤ l.length → Ev (fun k => soritesref06_Less.l0 k (i : Int) f l f m) (cmpTs (l.drop i) (m.drop i) == -1) := by
            intro n
            induction n with
            | zero =>
              intro i hi hle
              refine Ev.step (f := fun _ => some false) (fun k => ?_) ?_
              · rw [soritesref06_Less.l0, if_neg (by omega)]
              · rw [List.drop_of_length_le (by omega), List.drop_of_length_le (by omega)]; exact Ev.now _
            | succ n ihn =>
              intro i hi hle
              have hlt : i < l.length := by omega
              have hltm : i < m.length := by omega
              have hmem := List.getElem_mem hlt
              refine Ev.step (f := fun k => (soritesref06_Same.f k l[i].f0 l[i].f1 m[i].f0 m[i].f1).bind fun t => if t = true then soritesref06_Less.l0 k ((i + 1 : Nat) : Int) f l f m else (soritesref06_Less.f k l[i].f0 l[i].f1 m[i].f0 m[i].f1).bind fun t => some t) (fun k => ?_) (Ev.bind (RSame_spec l[i] m[i] (hsub _ hmem)) ?_)
              · rw [soritesref06_Less.l0, if_pos (by omega), if_pos (by omega), if_pos (by omega), rd24_at l i hlt, rd24_at m i hltm, wsucc i l.length hlt (by omega)]
              · rw [cmpTs_drop l m i hlt hltm]
                by_cases h0 : cmpT l[i] m[i] = 0
                · simp only [h0, beq_self_eq_true, if_true]
                  exact ihn (i + 1) (by omega) (by omega)
                · rw [if_neg h0]
                  have : (cmpT l[i] m[i] == 0) = false := by simpa using h0
                  simp only [this, Bool.false_eq_true, if_false]
                  exact Ev.bind (ih l[i] hmem m[i] (hsub _ hmem)) (Ev.now _)
          have := key l.length 0 rfl (by omega)
          simpa using this
      · refine Ev.step (f := fun _ => some (decide ((l.length : Int) < (m.length : Int)))) (fun k => ?_) ?_
        · rw [soritesref06_Less.j0, if_neg (by decide), if_pos rfl, if_neg (by simpa using fun h => hlm (by omega))]
        · have : (cmpT ⟨f, l⟩ ⟨f, m⟩ == -1) = decide ((l.length : Int) < (m.length : Int)) := by
            have h1 : cmpI (l.length : Int) m.length ≠ 0 := cmpI_ne (by omega)
            simp only [cmpT, hf, or_self, if_false, cmpI_self, orI, if_true, if_neg h1]
            unfold cmpI
            by_cases h2 : (l.length : Int) < m.length
            · simp only [h2, if_true, decide_true]; rfl
            · rw [if_neg h2, if_pos (by omega)]; simp only [h2, decide_false]; rfl
          rw [this]; exact Ev.now _
    · refine Ev.step (f := fun _ => some (decide (f < g))) (fun k => ?_) ?_
      · rw [soritesref06_Less.j0, if_neg (by decide), if_neg hfg]
      · have : (cmpT ⟨f, l⟩ ⟨g, m⟩ == -1) = decide (f < g) := by
          have h1 := cmpI_ne hfg
          have h3 : cmpT ⟨f, l⟩ ⟨g, m⟩ = cmpI f g := by
            simp only [cmpT, if_neg hneg]
            split
            · rfl
            · unfold orI; rw [if_neg h1]
          rw [h3]
          unfold cmpI
          by_cases h2 : f < g
          · simp only [h2, if_true, decide_true]; rfl
          · rw [if_neg h2, if_pos (by omega)]; simp only [h2, decide_false]; rfl
        rw [this]; exact Ev.now _
theorem RFlat_spec : ∀ t : S30, fit t → Ev (fun k => soritesref06_Flat.f k t.f0 t.f1) (nodes t) := by
  refine S30.ind ?_
  intro f l ih hfit
  refine Ev.step (f := fun k => soritesref06_Flat.l0 k [⟨f, l⟩] 0 f l) (fun k => by rw [soritesref06_Flat.f]) ?_
  by_cases hf : f < 0
  · refine Ev.step (f := fun _ => some [⟨f, l⟩]) (fun k => by rw [soritesref06_Flat.l0, if_neg (by omega)]) ?_
    have : nodes ⟨f, l⟩ = [⟨f, l⟩] := by simp [nodes, hf]
    rw [this]; exact Ev.now _
  · obtain ⟨hll, hsub⟩ := fit_sub hf hfit
    have hn : nodes ⟨f, l⟩ = ⟨f, l⟩ :: nodess l := by simp [nodes, hf]
    have hlen := hfit.1
    rw [hn, List.length_cons] at hlen
    have key : ∀ n i, l.length - i = n → i ≤ l.length → Ev (fun k => soritesref06_Flat.l0 k (⟨f, l⟩ :: nodess (l.take i)) (i : Int) f l) (nodes ⟨f, l⟩) := by
      intro n
      induction n with
      | zero =>
        intro i hi hle
        refine Ev.step (f := fun _ => some (⟨f, l⟩ :: nodess (l.take i))) (fun k => by rw [soritesref06_Flat.l0, if_pos (by omega), if_neg (by omega)]) ?_
        rw [List.take_of_length_le (by omega), hn]; exact Ev.now _
      | succ n ihn =>
        intro i hi hle
        have hlt : i < l.length := by omega
        have hmem := List.getElem_mem hlt
        have htk := nodess_take l i hlt
        have htl := nodess_take_le l (i + 1)
        rw [htk, List.length_append] at htl
        refine Ev.step (f := fun k => (soritesref06_Flat.f k l[i].f0 l[i].f1).bind fun t => if (⟨f, l⟩ :: nodess (l.take i)).length + t.length < 4398046511104 then soritesref06_Flat.l0 k ((⟨f, l⟩ :: nodess (l.take i)) ++ t) ((i + 1 : Nat) : Int) f l else none) (fun k => ?_) (Ev.bind (ih l[i] hmem (hsub _ hmem)) ?_)
        · rw [soritesref06_Flat.l0, if_pos (by omega), if_pos (by omega), if_pos (by omega), rd24_at l i hlt, wsucc i l.length hlt (by omega)]
        · simp only [List.length_cons]
          simp only [if_pos (show (nodess (l.take i)).length + 1 + (nodes l[i]).length < 4398046511104 by omega)]
          have := ihn (i + 1) (by omega) (by omega)
          rw [htk] at this
          simpa using this
    have := key l.length 0 rfl (by omega)
    simpa [nodess] using this
theorem To_spec : ∀ t : S30, fit t → Ev (fun k => soriteslaw06_To.f k t.f0 t.f1) ((cloneT t).f0, (cloneT t).f1) := by
  refine S30.ind ?_
  intro f l ih hfit
  refine Ev.step (f := fun k => soriteslaw06_To.l0 k 0 f l f []) (fun k => by rw [soriteslaw06_To.f]) ?_
  by_cases hf : f < 0
  · refine Ev.step (f := fun _ => some (f, [])) (fun k => by rw [soriteslaw06_To.l0, if_neg (by omega)]) ?_
    simpa [cloneT, hf] using Ev.now _
  · obtain ⟨hll, hsub⟩ := fit_sub hf hfit
    have key : ∀ n i, l.length - i = n → i ≤ l.length → Ev (fun k => soriteslaw06_To.l0 k (i : Int) f l f ((l.take i).map cloneT)) (f, l.map cloneT) := by
      intro n
      induction n with
      | zero =>
        intro i hi hle
        refine Ev.step (f := fun _ => some (f, l.map cloneT)) (fun k => by rw [soriteslaw06_To.l0, if_pos (by omega), if_neg (by omega), List.take_of_length_le (by omega)]) (Ev.now _)
      | succ n ihn =>
        intro i hi hle
        have hlt : i < l.length := by omega
        have hmem := List.getElem_mem hlt
        refine Ev.step (f := fun k => (soriteslaw06_To.f k l[i].f0 l[i].f1).bind fun t => if ((l.take i).map cloneT).length < 4398046511104 then soriteslaw06_To.l0 k ((i + 1 : Nat) : Int) f l f ((l.take i).map cloneT ++ [(⟨t.1, t.2⟩ : S24)]) else none) (fun k => ?_) (Ev.bind (ih l[i] hmem (hsub _ hmem)) ?_)
        · rw [soriteslaw06_To.l0, if_pos (by omega), if_pos (by omega), if_pos (by omega), rdC_at l i hlt, wsucc i l.length hlt (by omega)]
        · simp only [List.length_map, List.length_take]
          simp only [if_pos (show min i l.length < 4398046511104 by omega)]
          have := ihn (i + 1) (by omega) (by omega)
          rw [List.take_succ_eq_append_getElem hlt, List.map_append] at this
          simp only [S30.eta]
          exact this
    have := key l.length 0 rfl (by omega)
    simpa [cloneT, hf, cloneTs_eq] using this
end Go.Proofs.Ytpfddihcikiofaa.P
end

section
namespace Go.Proofs.Ytpfddihcikiofaa.P
open Go.RowKit Go.Proofs.YtpfddihcikiofaaW.PrintWords Go.Proofs.YtpfddihcikiofaaW.PrintLast Go.Proofs.YtpfddihcikiofaaW.PrintMore
set_option linter.unusedVariables false
set_option linter.unusedSimpArgs false
theorem Clone_fit : ∀ t : S30, fit t → Ev (fun k => term_Clone.f k t.f0 t.f1) ((cloneT t).f0, (cloneT t).f1) := by
  refine S30.ind ?_
  intro f l ih hfit
  have key : ∀ q : List S30, q.length ≤ 1000000 → (∀ x ∈ q, Ev (fun k => term_Clone.f k x.f0 x.f1) ((cloneT x).f0, (cloneT x).f1)) → ∀ n i, q.length - i = n → i ≤ q.length → Ev (fun k => term_Clone.l0 k q (q.length : Int) (i : Int) f ((q.take i).map cloneT)) (f, q.map cloneT) := by
    intro q hq hx n
    induction n with
    | zero =>
      intro i hi hle
      refine Ev.step (f := fun _ => some (f, q.map cloneT)) (fun k => by rw [term_Clone.l0, if_neg (by omega), List.take_of_length_le (by omega)]) (Ev.now _)
    | succ n ihn =>
      intro i hi hle
      have hlt : i < q.length := by omega
      refine Ev.step (f := fun k => (term_Clone.f k q[i].f0 q[i].f1).bind fun t => if ((q.take i).map cloneT).length < 4398046511104 then term_Clone.l0 k q (q.length : Int) ((i + 1 : Nat) : Int) f ((q.take i).map cloneT ++ [(⟨t.1, t.2⟩ : S30)]) else none) (fun k => ?_) (Ev.bind (hx q[i] (List.getElem_mem hlt)) ?_)
      · rw [term_Clone.l0, if_pos (by omega), if_pos (by omega), if_pos (by omega), rdC_at q i hlt, wsucc i q.length hlt (by omega)]
      · simp only [List.length_map, List.length_take]
        simp only [if_pos (show min i q.length < 4398046511104 by omega)]
        have := ihn (i + 1) (by omega) (by omega)
        rw [List.take_succ_eq_append_getElem hlt, List.map_append] at this
        simp only [S30.eta]
        exact this
  by_cases hf : f < 0
  · refine Ev.step (f := fun k => term_Clone.l0 k [] (([] : List S30).length : Int) 0 f []) (fun k => ?_) ?_
    · rw [term_Clone.f]; simp [term_parts.f, hf]
    · have := key [] (by simp) (fun x hx => by cases hx) 0 0 rfl (by simp)
      simpa [cloneT, hf] using this
  · obtain ⟨hll, hsub⟩ := fit_sub hf hfit
    refine Ev.step (f := fun k => term_Clone.l0 k l (l.length : Int) 0 f []) (fun k => ?_) ?_
    · rw [term_Clone.f]; simp [term_parts.f, hf]
    · have := key l hll (fun x hx => ih x hx (hsub x hx)) l.length 0 rfl (by omega)
      simpa [cloneT, hf, cloneTs_eq] using this
end Go.Proofs.Ytpfddihcikiofaa.P
end

section
namespace Go.Proofs.Ytpfddihcikiofaa.P
open Go.RowKit Go.Proofs.YtpfddihcikiofaaW.PrintWords Go.Proofs.YtpfddihcikiofaaW.PrintLast Go.Proofs.YtpfddihcikiofaaW.PrintMore
set_option linter.unusedVariables false
set_option linter.unusedSimpArgs false
theorem rdi_at (l : List Int) (k : Nat) (h : k < l.length) : rd l (k : Int) = l[k] := by
  unfold rd
  simp [List.getD, List.getElem?_eq_getElem h]
theorem varsN_len (l : List S30) (o : List Int) : (l.foldl varN o).length ≤ o.length + l.length := by
  induction l generalizing o with
  | nil => simp
  | cons x l ih =>
    rw [List.foldl_cons, List.length_cons]
    have := ih (varN o x)
    have h2 : (varN o x).length ≤ o.length + 1 := by
      unfold varN
      split
      · split
        · omega
        · simp
      · omega
    omega
theorem RVars_loop (q : List S30) (hq : q.length ≤ 1000000) : ∀ n i, q.length - i = n → i ≤ q.length → ∀ o : List Int, o.length ≤ i → Ev (fun k => soritesref06_Vars.l0 k q o (i : Int)) ((q.drop i).foldl varN o) := by
  intro n
  induction n with
  | zero =>
    intro i hi hle o ho
    refine Ev.step (f := fun _ => some o) (fun k => by rw [soritesref06_Vars.l0, if_neg (by omega)]) ?_
    rw [List.drop_of_length_le (by omega)]; exact Ev.now _
  | succ n ihn =>
    intro i hi hle o ho
    have hlt : i < q.length := by omega
    rw [List.drop_eq_getElem_cons hlt, List.foldl_cons]
    by_cases hneg : q[i].f0 < 0
    ·
      obtain ⟨v, hv⟩ : ∃ v, v = wrap64 (-1 - q[i].f0) := ⟨_, rfl⟩
      have inner : ∀ m j, o.length - j = m → j ≤ o.length → ∀ b : Bool, b = decide (v ∈ o.take j) → Ev (fun k => soritesref06_Vars.l1 k q o (i : Int) v b (j : Int)) ((q.drop (i + 1)).foldl varN (varN o q[i])) := by
        intro m
        induction m with
        | zero =>
          intro j hj hjle b hb
          rw [List.take_of_length_le (by omega)] at hb
          have hvn : varN o q[i] = if b = true then o else o ++ [v] := by unfold varN; rw [if_pos hneg, ← hv, hb]
          cases b with
          | true =>
            refine Ev.step (f := fun k => soritesref06_Vars.l0 k q o ((i + 1 : Nat) : Int)) (fun k => by rw [soritesref06_Vars.l1, if_neg (by omega), if_pos rfl, wsucc i q.length hlt (by omega)]) ?_
            rw [hvn, if_pos rfl]
            exact ihn (i + 1) (by omega) (by omega) o (by omega)
          | false =>
            refine Ev.step (f := fun k => soritesref06_Vars.l0 k q (o ++ [v]) ((i + 1 : Nat) : Int)) (fun k => by rw [soritesref06_Vars.l1, if_neg (by omega), if_neg (by decide), if_pos (by omega), wsucc i q.length hlt (by omega)]) ?_
            rw [hvn, if_neg (by decide)]
            exact ihn (i + 1) (by omega) (by omega) _ (by simp; omega)
        | succ m ihm =>
          intro j hj hjle b hb
          have hjl : j < o.length := by omega
          have htk : o.take (j + 1) = o.take j ++ [o[j]] := List.take_succ_eq_append_getElem hjl
          cases b with
          | true =>
            refine Ev.step (f := fun k => soritesref06_Vars.l1 k q o (i : Int) v true ((j + 1 : Nat) : Int)) (fun k => by rw [soritesref06_Vars.l1, if_pos (by omega), if_pos rfl, wsucc j o.length hjl (by omega)]) ?_
            refine ihm (j + 1) (by omega) (by omega) true ?_
            have hmem : v ∈ o.take j := of_decide_eq_true hb.symm
            exact (decide_eq_true (by rw [htk]; exact List.mem_append_left _ hmem)).symm
          | false =>
            refine Ev.step (f := fun k => soritesref06_Vars.l1 k q o (i : Int) v (o[j] == v) ((j + 1 : Nat) : Int)) (fun k => by rw [soritesref06_Vars.l1, if_pos (by omega), if_neg (by decide), if_pos (by omega), rdi_at o j hjl, wsucc j o.length hjl (by omega)]) ?_
            refine ihm (j + 1) (by omega) (by omega) _ ?_
            have hmem : ¬ v ∈ o.take j := of_decide_eq_false hb.symm
            rw [htk, Bool.eq_iff_iff]
            simp only [beq_iff_eq, decide_eq_true_eq, List.mem_append, List.mem_singleton]
            exact ⟨fun e => .inr e.symm, fun h => h.elim (fun h => absurd h hmem) (fun e => e.symm)⟩
      refine Ev.step (f := fun k => soritesref06_Vars.l1 k q o (i : Int) v false 0) (fun k => by rw [soritesref06_Vars.l0, if_pos (by omega), if_pos (by omega), rd24_at q i hlt, if_neg (by omega), hv]) ?_
      exact inner o.length 0 (by omega) (by omega) false (by simp)
    · refine Ev.step (f := fun k => soritesref06_Vars.l0 k q o ((i + 1 : Nat) : Int)) (fun k => by rw [soritesref06_Vars.l0, if_pos (by omega), if_pos (by omega), rd24_at q i hlt, if_pos (by omega), wsucc i q.length hlt (by omega)]) ?_
      have hvn : varN o q[i] = o := by unfold varN; rw [if_neg hneg]
      rw [hvn]
      exact ihn (i + 1) (by omega) (by omega) o (by omega)
theorem RVars_spec (t : S30) (h : fit t) : Ev (fun k => soritesref06_Vars.f k t.f0 t.f1) (varsN (nodes t)) := by
  unfold soritesref06_Vars.f
  refine Ev.bind (RFlat_spec t h) ?_
  have := RVars_loop (nodes t) h.1 _ 0 rfl (by omega) [] (by simp)
  simpa [varsN] using this
theorem cmp_len : ∀ a b : S30, cmpT a b = 0 → (nodes a).length = (nodes b).length := by
  refine S30.ind ?_
  intro f l ih b h
  obtain ⟨g, m⟩ := b
  have hfg : f = g := by
    rcases Decidable.em (f = g) with e | e
    · exact e
    · exfalso
      have h1 := cmpI_ne e
      have h2 := cmpI_ne (fun e' => e e'.symm)
      simp only [cmpT] at h
      split at h
      · split at h <;> contradiction
      · unfold orI at h; rw [if_neg h1] at h; contradiction
  subst hfg
  by_cases hf : f < 0
  · simp [nodes, hf]
  · have hlm : l.length = m.length := by
      rcases Decidable.em (l.length = m.length) with e | e
      · exact e
      · exfalso
        have h1 : cmpI (l.length : Int) m.length ≠ 0 := cmpI_ne (by omega)
        simp [cmpT, hf, cmpI_self, orI, h1] at h
    have hc : cmpTs l m = 0 := by simpa [cmpT, hf, cmpI_self, hlm, orI] using h
    have key : ∀ (l m : List S30), (∀ x ∈ l, ∀ y, cmpT x y = 0 → (nodes x).length = (nodes y).length) → l.length = m.length → cmpTs l m = 0 → (nodess l).length = (nodess m).length := by
      intro l
      induction l with
      | nil => intro m _ hl _; cases m with
        | nil => rfl
        | cons => simp at hl
      | cons x l ihl =>
        intro m h hl hc
        cases m with
        | nil => simp at hl
        | cons y m =>
          rw [cmpTs] at hc
          split at hc
          · rename_i h0
            rw [nodess, nodess, List.length_append, List.length_append, h x (by simp) y h0, ihl m (fun x hx => h x (by simp [hx])) (by simpa using hl) hc]
          · rename_i h0; contradiction
    have := key l m (fun x hx y => ih x hx y) hlm hc
    simp [nodes, hf, this]
theorem cmp_zero {f g : Int} {l m : List S30} (h : cmpT ⟨f, l⟩ ⟨g, m⟩ = 0) : f = g ∧ (¬ f < 0 → l.length = m.length ∧ cmpTs l m = 0) := by
  have hfg : f = g := by
    rcases Decidable.em (f = g) with e | e
    · exact e
    · exfalso
      have h1 := cmpI_ne e
      have h2 := cmpI_ne (fun e' => e e'.symm)
      simp only [cmpT] at h
      split at h
      · split at h <;> contradiction
      · unfold orI at h; rw [if_neg h1] at h; contradiction
  subst hfg
  refine ⟨rfl, fun hf => ?_⟩
  have hlm : l.length = m.length := by
    rcases Decidable.em (l.length = m.length) with e | e
    · exact e
    · exfalso
      have h1 : cmpI (l.length : Int) m.length ≠ 0 := cmpI_ne (by omega)
      simp [cmpT, hf, cmpI_self, orI, h1] at h
  exact ⟨hlm, by simpa [cmpT, hf, cmpI_self, hlm, orI] using h⟩
theorem fit_of_ok : ∀ t : S30, ok t → (nodes t).length ≤ 1000000 → fit t := by
  have key : ∀ t : S30, ok t → SmallN t := by
    refine S30.ind ?_
    intro f l ih h
    obtain ⟨h1, h2, h3, h4⟩ := h
    have hl : ∀ y ∈ nodess l, -1000000 ≤ y.f0 ∧ y.f0 ≤ 1000000 := by
      have := oks_mem h4
      clear h1 h2 h3 h4
      induction l with
      | nil => intro y hy; cases hy
      | cons x l ihl =>
        intro y hy
        rw [nodess, List.mem_append] at hy
        rcases hy with hy | hy
        · exact ih x (by simp) (this x (by simp)) y hy
        · exact ihl (fun x hx => ih x (by simp [hx])) (fun x hx => this x (by simp [hx])) y hy
    intro y hy
    rw [nodes] at hy
    rcases List.mem_cons.1 hy with rfl | hy
    · exact ⟨by show -1000000 ≤ f; omega, by show f ≤ 1000000; omega⟩
    · split at hy
      · cases hy
      · exact hl y hy
  intro t h hn
  exact ⟨hn, key t h⟩
end Go.Proofs.Ytpfddihcikiofaa.P
end
