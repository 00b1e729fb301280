/- The law TermSame holds of every input. Part 2 of 3: PxCmpCompareInt, PxCmpOrInt, GCompare, GWalk, GRange, PxSlicesIndexIntInt, PxSlicesContainsIntInt, GVars, GCount, GSize, GClone, GPlaces, PxTermTop, PxSoriteslaw06Alive, GFlat, PxTermParts. -/
import Derived.Test.YtpfddihcikiofaaZTermSame1
import Derived.RangeFuncNested
import Derived.RangeFuncBound
import Derived.RangeFuncCalls
import Derived.RangeFuncLeaves
import Derived.Shelf.Abstract
import Derived.Shelf.RegionOpen
import Derived.WalkKit
import Derived.OwnWalkIn
import Derived.TacticsInMore
import Derived.LoopNIn
import Derived.LoopIn
import Derived.Deep.RegionLawGrows
import Derived.Maps.OwnIn
import Derived.Deep.DeepMust
import Derived.WalkSpells
section
-- Laid by a program of this session (wip/tools) over the kit's printer: the functions' own text. Lean checks it.
namespace Go.Proofs.Ytpfddihcikiofaa.P
open Go.RowKit Go.Proofs.YtpfddihcikiofaaW.PrintWords Go.Proofs.YtpfddihcikiofaaW.PrintLast Go.Proofs.YtpfddihcikiofaaW.PrintMore
attribute [local go_sem] max2_int min2_int max_two min_two max_three min_three max_four min_four   -- for this text's walks alone
set_option linter.unusedVariables false
set_option linter.unusedSimpArgs false

/-! ### cmp_Compare_int: function 76 -/
def cmp_Compare_int.f (a0 : Int) (a1 : Int) : Option (Int) := (cmp_isNaN_int.f a0).bind fun t258 => ((cmp_isNaN_int.f a1).bind fun t259 => (if t258 = true then (if t259 = true then (some 0) else (some (-1))) else (if t259 = true then (some 1) else (if a0 < a1 then (some (-1)) else (if a0 > a1 then (some 1) else (some 0))))))
set_option maxHeartbeats 8000000 in
set_option maxRecDepth 100000 in
theorem cmp_Compare_int.calls (a0 : Int) (a1 : Int) (r : Int) (w : World) (h : cmp_Compare_int.f a0 a1 = some r) :
    Calls Try.prog 76 #[.int .i64 a0, .int .i64 a1] w fun e w' => e = .returned (.int .i64 r) ∧ Drawn0 w w' := by
  have H : ((cmp_isNaN_int.f a0).bind fun t258 => ((cmp_isNaN_int.f a1).bind fun t259 => (if t258 = true then (if t259 = true then (some 0) else (some (-1))) else (if t259 = true then (some 1) else (if a0 < a1 then (some (-1)) else (if a0 > a1 then (some 1) else (some 0))))))) = some r := h
  clear h
  replace H := Option.bind_eq_some_iff.mp H
  obtain ⟨t258, A30, H⟩ := H
  replace H : ((cmp_isNaN_int.f a1).bind fun t259 => (if t258 = true then (if t259 = true then (some 0) else (some (-1))) else (if t259 = true then (some 1) else (if a0 < a1 then (some (-1)) else (if a0 > a1 then (some 1) else (some 0)))))) = some r := H
  have A3 := Aside0.mk A30
  clear A30
  replace H := Option.bind_eq_some_iff.mp H
  obtain ⟨t259, A40, H⟩ := H
  replace H : (if t258 = true then (if t259 = true then (some 0) else (some (-1))) else (if t259 = true then (some 1) else (if a0 < a1 then (some (-1)) else (if a0 > a1 then (some 1) else (some 0))))) = some r := H
  have A4 := Aside0.mk A40
  clear A40
  by_cases c5 : t258 = true
  · subst c5
    have H1 : (if t259 = true then (some 0) else (some (-1))) = some r := by rw [if_pos rfl] at H; exact H
    clear H
    have H := H1
    clear H1
    by_cases c6 : t259 = true
    · subst c6
      have H1 : (some 0) = some r := by rw [if_pos rfl] at H; exact H
      clear H
      have H := H1
      clear H1
      obtain rfl := Option.some.inj H
      go_enter Try.func76, Try.ntmps76
      go_wp2_with (first | ((with_reducible refine gate_callee (f := 106) rfl ?_); refine goesL_ (some 8) rfl rfl Try.func106 (by kernel_rfl) rfl #[.int .i64 a0] rfl (by (try simp only [List.map_toArray, List.map_cons, List.map_nil]); first | done | rfl | (simp only [List.length_drop, List.length_take]; rfl)) ?_; (with_reducible refine (cmp_isNaN_int.calls a0 true _ A3.out).mono ?_); rintro e w' ⟨rfl, ⟨nd, rfl⟩⟩; refine ⟨_, rfl, ?_⟩) | ((with_reducible refine gate_callee (f := 106) rfl ?_); refine goesL_ (some 10) rfl rfl Try.func106 (by kernel_rfl) rfl #[.int .i64 a1] rfl (by (try simp only [List.map_toArray, List.map_cons, List.map_nil]); first | done | rfl | (simp only [List.length_drop, List.length_take]; rfl)) ?_; (with_reducible refine (cmp_isNaN_int.calls a1 true _ A4.out).mono ?_); rintro e w' ⟨rfl, ⟨nd, rfl⟩⟩; refine ⟨_, rfl, ?_⟩))
      go_ret
      exact ⟨by first | rfl | (simp; done) | (simp [*]; done), by repeat (first | exact Drawn0.refl _ | apply Drawn0.step)⟩
    · replace c6 := Bool.eq_false_iff.mpr c6
      subst c6
      have H1 : (some (-1)) = some r := by rw [if_neg (show ¬ (false = true) by decide)] at H; exact H
      clear H
      have H := H1
      clear H1
      obtain rfl := Option.some.inj H
      go_enter Try.func76, Try.ntmps76
      go_wp2_with (first | ((with_reducible refine gate_callee (f := 106) rfl ?_); refine goesL_ (some 8) rfl rfl Try.func106 (by kernel_rfl) rfl #[.int .i64 a0] rfl (by (try simp only [List.map_toArray, List.map_cons, List.map_nil]); first | done | rfl | (simp only [List.length_drop, List.length_take]; rfl)) ?_; (with_reducible refine (cmp_isNaN_int.calls a0 true _ A3.out).mono ?_); rintro e w' ⟨rfl, ⟨nd, rfl⟩⟩; refine ⟨_, rfl, ?_⟩) | ((with_reducible refine gate_callee (f := 106) rfl ?_); refine goesL_ (some 10) rfl rfl Try.func106 (by kernel_rfl) rfl #[.int .i64 a1] rfl (by (try simp only [List.map_toArray, List.map_cons, List.map_nil]); first | done | rfl | (simp only [List.length_drop, List.length_take]; rfl)) ?_; (with_reducible refine (cmp_isNaN_int.calls a1 false _ A4.out).mono ?_); rintro e w' ⟨rfl, ⟨nd, rfl⟩⟩; refine ⟨_, rfl, ?_⟩))
      go_ret
      exact ⟨by first | rfl | (simp; done) | (simp [*]; done), by repeat (first | exact Drawn0.refl _ | apply Drawn0.step)⟩
  · replace c5 := Bool.eq_false_iff.mpr c5
    subst c5
    have H1 : (if t259 = true then (some 1) else (if a0 < a1 then (some (-1)) else (if a0 > a1 then (some 1) else (some 0)))) = some r := by rw [if_neg (show ¬ (false = true) by decide)] at H; exact H
    clear H
    have H := H1
    clear H1
    by_cases c7 : t259 = true
    · subst c7
      have H1 : (some 1) = some r := by rw [if_pos rfl] at H; exact H
      clear H
      have H := H1
      clear H1
      obtain rfl := Option.some.inj H
      go_enter Try.func76, Try.ntmps76
      go_wp2_with (first | ((with_reducible refine gate_callee (f := 106) rfl ?_); refine goesL_ (some 8) rfl rfl Try.func106 (by kernel_rfl) rfl #[.int .i64 a0] rfl (by (try simp only [List.map_toArray, List.map_cons, List.map_nil]); first | done | rfl | (simp only [List.length_drop, List.length_take]; rfl)) ?_; (with_reducible refine (cmp_isNaN_int.calls a0 false _ A3.out).mono ?_); rintro e w' ⟨rfl, ⟨nd, rfl⟩⟩; refine ⟨_, rfl, ?_⟩) | ((with_reducible refine gate_callee (f := 106) rfl ?_); refine goesL_ (some 10) rfl rfl Try.func106 (by kernel_rfl) rfl #[.int .i64 a1] rfl (by (try simp only [List.map_toArray, List.map_cons, List.map_nil]); first | done | rfl | (simp only [List.length_drop, List.length_take]; rfl)) ?_; (with_reducible refine (cmp_isNaN_int.calls a1 true _ A4.out).mono ?_); rintro e w' ⟨rfl, ⟨nd, rfl⟩⟩; refine ⟨_, rfl, ?_⟩))
      go_ret
      exact ⟨by first | rfl | (simp; done) | (simp [*]; done), by repeat (first | exact Drawn0.refl _ | apply Drawn0.step)⟩
    · replace c7 := Bool.eq_false_iff.mpr c7
      subst c7
      have H1 : (if a0 < a1 then (some (-1)) else (if a0 > a1 then (some 1) else (some 0))) = some r := by rw [if_neg (show ¬ (false = true) by decide)] at H; exact H
      clear H
      have H := H1
      clear H1
      by_cases c8 : a0 < a1
      · rw [if_pos c8] at H
        have c8b0 : decide (a0 < a1) = true := decide_eq_true c8
        clear c8
        obtain rfl := Option.some.inj H
        go_enter Try.func76, Try.ntmps76
        go_wp2_with (first | ((with_reducible refine gate_callee (f := 106) rfl ?_); refine goesL_ (some 8) rfl rfl Try.func106 (by kernel_rfl) rfl #[.int .i64 a0] rfl (by (try simp only [List.map_toArray, List.map_cons, List.map_nil]); first | done | rfl | (simp only [List.length_drop, List.length_take]; rfl)) ?_; (with_reducible refine (cmp_isNaN_int.calls a0 false _ A3.out).mono ?_); rintro e w' ⟨rfl, ⟨nd, rfl⟩⟩; refine ⟨_, rfl, ?_⟩) | ((with_reducible refine gate_callee (f := 106) rfl ?_); refine goesL_ (some 10) rfl rfl Try.func106 (by kernel_rfl) rfl #[.int .i64 a1] rfl (by (try simp only [List.map_toArray, List.map_cons, List.map_nil]); first | done | rfl | (simp only [List.length_drop, List.length_take]; rfl)) ?_; (with_reducible refine (cmp_isNaN_int.calls a1 false _ A4.out).mono ?_); rintro e w' ⟨rfl, ⟨nd, rfl⟩⟩; refine ⟨_, rfl, ?_⟩))
        go_ret
        exact ⟨by first | rfl | (simp; done) | (simp [*]; done), by repeat (first | exact Drawn0.refl _ | apply Drawn0.step)⟩
      · rw [if_neg c8] at H
        have c8b0 : decide (a0 < a1) = false := decide_eq_false c8
        clear c8
        by_cases c9 : a0 > a1
        · rw [if_pos c9] at H
          have c9b0 : decide (a1 < a0) = true := decide_eq_true c9
          clear c9
          obtain rfl := Option.some.inj H
          go_enter Try.func76, Try.ntmps76
          go_wp2_with (first | ((with_reducible refine gate_callee (f := 106) rfl ?_); refine goesL_ (some 8) rfl rfl Try.func106 (by kernel_rfl) rfl #[.int .i64 a0] rfl (by (try simp only [List.map_toArray, List.map_cons, List.map_nil]); first | done | rfl | (simp only [List.length_drop, List.length_take]; rfl)) ?_; (with_reducible refine (cmp_isNaN_int.calls a0 false _ A3.out).mono ?_); rintro e w' ⟨rfl, ⟨nd, rfl⟩⟩; refine ⟨_, rfl, ?_⟩) | ((with_reducible refine gate_callee (f := 106) rfl ?_); refine goesL_ (some 10) rfl rfl Try.func106 (by kernel_rfl) rfl #[.int .i64 a1] rfl (by (try simp only [List.map_toArray, List.map_cons, List.map_nil]); first | done | rfl | (simp only [List.length_drop, List.length_take]; rfl)) ?_; (with_reducible refine (cmp_isNaN_int.calls a1 false _ A4.out).mono ?_); rintro e w' ⟨rfl, ⟨nd, rfl⟩⟩; refine ⟨_, rfl, ?_⟩))
          go_ret
          exact ⟨by first | rfl | (simp; done) | (simp [*]; done), by repeat (first | exact Drawn0.refl _ | apply Drawn0.step)⟩
        · rw [if_neg c9] at H
          have c9b0 : decide (a1 < a0) = false := decide_eq_false c9
          clear c9
          obtain rfl := Option.some.inj H
          go_enter Try.func76, Try.ntmps76
          go_wp2_with (first | ((with_reducible refine gate_callee (f := 106) rfl ?_); refine goesL_ (some 8) rfl rfl Try.func106 (by kernel_rfl) rfl #[.int .i64 a0] rfl (by (try simp only [List.map_toArray, List.map_cons, List.map_nil]); first | done | rfl | (simp only [List.length_drop, List.length_take]; rfl)) ?_; (with_reducible refine (cmp_isNaN_int.calls a0 false _ A3.out).mono ?_); rintro e w' ⟨rfl, ⟨nd, rfl⟩⟩; refine ⟨_, rfl, ?_⟩) | ((with_reducible refine gate_callee (f := 106) rfl ?_); refine goesL_ (some 10) rfl rfl Try.func106 (by kernel_rfl) rfl #[.int .i64 a1] rfl (by (try simp only [List.map_toArray, List.map_cons, List.map_nil]); first | done | rfl | (simp only [List.length_drop, List.length_take]; rfl)) ?_; (with_reducible refine (cmp_isNaN_int.calls a1 false _ A4.out).mono ?_); rintro e w' ⟨rfl, ⟨nd, rfl⟩⟩; refine ⟨_, rfl, ?_⟩))
          go_ret
          exact ⟨by first | rfl | (simp; done) | (simp [*]; done), by repeat (first | exact Drawn0.refl _ | apply Drawn0.step)⟩

end Go.Proofs.Ytpfddihcikiofaa.P
end

section
-- Laid by a program of this session (wip/tools) over the kit's printer: the functions' own text. Lean checks it.
namespace Go.Proofs.Ytpfddihcikiofaa.P
open Go.RowKit Go.Proofs.YtpfddihcikiofaaW.PrintWords Go.Proofs.YtpfddihcikiofaaW.PrintLast Go.Proofs.YtpfddihcikiofaaW.PrintMore
attribute [local go_sem] max2_int min2_int max_two min_two max_three min_three max_four min_four   -- for this text's walks alone
set_option linter.unusedVariables false
set_option linter.unusedSimpArgs false

/-! ### cmp_Or_int: function 77 -/
def cmp_Or_int.l0 : Nat → Int → List Int → Int → Int → Option (Int)
  | 0, _, _, _, _ => none
  | k + 1, x3, x6, x7, x8 => if x8 < x7 then (if 0 ≤ x8 then (if x8 < (x6.length : Int) then (if (rd x6 x8) = x3 then (cmp_Or_int.l0 k x3 x6 x7 (wrap64 (x8 + 1))) else (some (rd x6 x8))) else (none)) else (none)) else (some x3)
def cmp_Or_int.f (k : Nat) (l0 : List Int) : Option (Int) := cmp_Or_int.l0 k 0 l0 (l0.length : Int) 0
theorem cmp_Or_int.mono_l : ∀ k, (∀ y0 y1 y2 y3, LeO (cmp_Or_int.l0 k y0 y1 y2 y3) (cmp_Or_int.l0 (k + 1) y0 y1 y2 y3))
  | 0 => fun _ _ _ _ r h => by simp [cmp_Or_int.l0] at h
  | k + 1 => by
    have ih0 := cmp_Or_int.mono_l k
    · intro y0 y1 y2 y3
      unfold cmp_Or_int.l0
      repeat' first
      | (with_reducible exact ih0 _ _ _ _)
      | (with_reducible exact LeO.refl _)
      | (with_reducible exact LeO.none _)
      | (with_reducible refine LeO.ite ?_ ?_)
      | (with_reducible refine LeO.bind ?_ (fun _ => ?_))
      | exact ih0 _ _ _ _
      | exact LeO.none _
      | refine LeO.ite ?_ ?_
      | refine LeO.bind ?_ (fun _ => ?_)
theorem cmp_Or_int.mono : ∀ a0 k, LeO (cmp_Or_int.f k a0) (cmp_Or_int.f (k + 1) a0) := by
  intro a0 k
  have ih0 := cmp_Or_int.mono_l k
  unfold cmp_Or_int.f
  repeat' first
      | (with_reducible exact ih0 _ _ _ _)
      | (with_reducible exact LeO.refl _)
      | (with_reducible exact LeO.none _)
      | (with_reducible refine LeO.ite ?_ ?_)
      | (with_reducible refine LeO.bind ?_ (fun _ => ?_))
      | exact ih0 _ _ _ _
      | exact LeO.none _
      | refine LeO.ite ?_ ?_
      | refine LeO.bind ?_ (fun _ => ?_)
set_option maxHeartbeats 8000000 in
set_option maxRecDepth 100000 in
theorem cmp_Or_int.calls (k : Nat) (A0 : Option Addr) (c0 : Nat) (l0 : List Int) (r : Int) (w : World) (hr0 : Kd.C (Kd.int .i64) w A0 l0.length l0) (hc0 : l0.length ≤ c0) (h : cmp_Or_int.f k l0 = some r) :
    Calls Try.prog 77 #[.slice A0 l0.length c0] w fun e w' => e = .returned (.int .i64 r) ∧ Drawn0 w w' := by
  have HR0 := Aside0.mk hr0
  have HC0 := Aside0.mk hc0
  clear hr0 hc0
  have H : (cmp_Or_int.l0 k 0 l0 (l0.length : Int) 0) = some r := h
  clear h
  have H' := Aside0.mk H
  clear H
  go_enter Try.func77, Try.ntmps77
  go_wp2
  go_loopg [8] k (fun kq v8 w' => ∃ (x8_1 : Int), v8 = .int .i64 x8_1 ∧ Aside0 (cmp_Or_int.l0 kq 0 l0 (l0.length : Int) x8_1 = some r) ∧ Aside0 (kq ≤ k) ∧ Drawn0 w w')
  case atStart => exact ⟨(0), (by first | rfl | (simp; done) | (simp [*]; done)), H', ⟨Nat.le_refl _⟩, by repeat (first | exact Drawn0.refl _ | apply Drawn0.step)⟩
  case round =>
    clear H'
    obtain ⟨x8_1, rfl, HA, HK1, ⟨m1, rfl⟩⟩ := hrel
    cases gk with
    | zero => exact absurd HA.out (by simp [cmp_Or_int.l0])
    | succ k1 =>
      have H := HA.out
      clear HA
      simp only [cmp_Or_int.l0] at H
      by_cases c2 : x8_1 < (l0.length : Int)
      · rw [if_pos c2] at H
        have c2b0 : decide (x8_1 < (l0.length : Int)) = true := decide_eq_true c2
        clear c2
        by_cases c3 : 0 ≤ x8_1
        · rw [if_pos c3] at H
          have c3b0 : decide (0 ≤ x8_1) = true := decide_eq_true c3
          clear c3
          by_cases c4 : x8_1 < (l0.length : Int)
          · rw [if_pos c4] at H
            have c4b0 : decide (x8_1 < (l0.length : Int)) = true := decide_eq_true c4
            clear c4
            by_cases c5 : (rd l0 x8_1) = 0
            · rw [if_pos c5] at H
              have c5b0 : ((rd l0 x8_1) == 0) = true := beq_iff_eq.mpr c5
              have c5b1 : ((rd l0 x8_1) != 0) = false := bne_eq_false_iff_eq.mpr c5
              clear c5
              have H' := Aside0.mk H
              clear H
              have p260 : 0 ≤ (x8_1 : Int) := of_decide_eq_true (by first | (with_reducible assumption) | assumption)
              have q260 : x8_1 < (l0.length : Int) := of_decide_eq_true (by first | (with_reducible assumption) | assumption)
              obtain ⟨ad260, e260, hx260_0⟩ := Kd.at_int HR0.out x8_1 p260 q260
              cases e260
              replace p260 := eq_true p260
              replace q260 := eq_true q260
              go_wp2
              go_roundg k1
              case measure => have := HK1.out; omega
              case rel => exact ⟨(wrap64 (x8_1 + 1)), (by first | rfl | (simp; done) | (simp [*]; done)), H', ⟨by have := HK1.out; omega⟩, by repeat (first | exact Drawn0.refl _ | apply Drawn0.step)⟩
            · rw [if_neg c5] at H
              have c5b0 : ((rd l0 x8_1) == 0) = false := beq_eq_false_iff_ne.mpr c5
              have c5b1 : ((rd l0 x8_1) != 0) = true := bne_iff_ne.mpr c5
              obtain rfl := Option.some.inj H
              have p260 : 0 ≤ (x8_1 : Int) := of_decide_eq_true (by first | (with_reducible assumption) | assumption)
              have q260 : x8_1 < (l0.length : Int) := of_decide_eq_true (by first | (with_reducible assumption) | assumption)
              obtain ⟨ad260, e260, hx260_0⟩ := Kd.at_int HR0.out x8_1 p260 q260
              cases e260
              replace p260 := eq_true p260
              replace q260 := eq_true q260
              go_wp2
              go_ret
              exact ⟨by first | rfl | (simp; done) | (simp [*]; done), by repeat (first | exact Drawn0.refl _ | apply Drawn0.step)⟩
          · rw [if_neg c4] at H
            exact absurd H (by simp)
        · rw [if_neg c3] at H
          exact absurd H (by simp)
      · rw [if_neg c2] at H
        have c2b0 : decide (x8_1 < (l0.length : Int)) = false := decide_eq_false c2
        clear c2
        obtain rfl := Option.some.inj H
        go_wp2
        go_ret
        exact ⟨by first | rfl | (simp; done) | (simp [*]; done), by repeat (first | exact Drawn0.refl _ | apply Drawn0.step)⟩

end Go.Proofs.Ytpfddihcikiofaa.P
end

section
/- term.Compare. PRINTED by gen/gcompare.py. -/
namespace Go.Proofs.Ytpfddihcikiofaa.P
open Go.RowKit Go.Proofs.YtpfddihcikiofaaW.PrintWords Go.Proofs.YtpfddihcikiofaaW.PrintLast Go.Proofs.YtpfddihcikiofaaW.PrintMore
set_option linter.unusedVariables false
set_option linter.unusedSimpArgs false

/-- The order of two numbers. -/
def cmpI (a b : Int) : Int := if a < b then -1 else if a > b then 1 else 0
def orI (a b c : Int) : Int := if a = 0 then (if b = 0 then c else b) else a
mutual
/-- The order of two terms, as term.Compare tells it. -/
def cmpT : S30 → S30 → Int
  | ⟨f, l⟩, ⟨g, m⟩ => if f < 0 ∨ g < 0 then (if f < 0 ∧ g < 0 then cmpI g f else cmpI f g) else orI (cmpI f g) (cmpI l.length m.length) (cmpTs l m)
def cmpTs : List S30 → List S30 → Int
  | [], [] => 0
  | [], _ :: _ => -1
  | _ :: _, [] => 1
  | x :: l, y :: m => if cmpT x y = 0 then cmpTs l m else cmpT x y
end
theorem isNaN_f (a : Int) : cmp_isNaN_int.f a = some false := by simp [cmp_isNaN_int.f]
theorem cmpI_f (a b : Int) : cmp_Compare_int.f a b = some (cmpI a b) := by
  simp only [cmp_Compare_int.f, isNaN_f, Option.bind_some, cmpI]
  simp
  split
  · rfl
  · split <;> rfl
theorem orI_f (a b c : Int) : Ev (fun k => cmp_Or_int.f k [a, b, c]) (orI a b c) := by
  refine ⟨4, fun k hk => ?_⟩
  obtain ⟨k, rfl⟩ : ∃ m, k = m + 4 := ⟨k - 4, by omega⟩
  simp only [cmp_Or_int.f, cmp_Or_int.l0, rd, List.length_cons, List.length_nil, orI, wrap64]
  simp
  by_cases ha : a = 0
  · simp [ha]
    by_cases hb : b = 0
    · simp [hb]
      by_cases hc : c = 0
      · simp [hc]
      · simp [hc]
    · simp [hb]
  · simp [ha]
def term_Compare.f (a0_0 : Int) (l0_1 : List S30) (a1_0 : Int) (l1_1 : List S30) : Option Int := some (cmpT ⟨a0_0, l0_1⟩ ⟨a1_0, l1_1⟩)

set_option maxHeartbeats 4000000 in
set_option maxRecDepth 100000 in
theorem Compare_r5 {id : Nat} {a : Act} {w : World} {Q : Exit → Act → World → Prop} {f g c1 c2 c3 r : Int} {A B : Option Addr} {nl nm c e g0 g1 : Nat}
    (hr : regionOk #[{ dst := some 31, op := Op.fieldAddr 30 (Operand.tmp 2) 0, type := 0, pos := "term.go:32", after := #[], guard := none }, { dst := some 32, op := Op.load 3 (Operand.tmp 31), type := 3, pos := "term.go:32", after := #[{ on := 0, ground := Ground.data }], guard := none }, { dst := some 33, op := Op.fieldAddr 30 (Operand.tmp 3) 0, type := 0, pos := "term.go:32", after := #[], guard := none }, { dst := some 34, op := Op.load 3 (Operand.tmp 33), type := 3, pos := "term.go:32", after := #[{ on := 2, ground := Ground.data }], guard := none }, { dst := some 35, op := Op.call { callee := Callee.value (Operand.func 76), args := #[Operand.tmp 32, Operand.tmp 34], argTypes := #[3, 3] }, type := 3, pos := "term.go:32", after := #[{ on := 1, ground := Ground.data }, { on := 3, ground := Ground.data }], guard := none }, { dst := some 36, op := Op.fieldAddr 30 (Operand.tmp 2) 1, type := 0, pos := "term.go:32", after := #[], guard := none }, { dst := some 37, op := Op.load 28 (Operand.tmp 36), type := 28, pos := "term.go:32", after := #[{ on := 5, ground := Ground.data }], guard := none }, { dst := some 38, op := Op.call { callee := Callee.builtin Builtin.len, args := #[Operand.tmp 37], argTypes := #[28] }, type := 3, pos := "term.go:32", after := #[{ on := 6, ground := Ground.data }], guard := none }, { dst := some 39, op := Op.fieldAddr 30 (Operand.tmp 3) 1, type := 0, pos := "term.go:32", after := #[], guard := none }, { dst := some 40, op := Op.load 28 (Operand.tmp 39), type := 28, pos := "term.go:32", after := #[{ on := 8, ground := Ground.data }], guard := none }, { dst := some 41, op := Op.call { callee := Callee.builtin Builtin.len, args := #[Operand.tmp 40], argTypes := #[28] }, type := 3, pos := "term.go:32", after := #[{ on := 9, ground := Ground.data }], guard := none }, { dst := some 42, op := Op.call { callee := Callee.value (Operand.func 76), args := #[Operand.tmp 38, Operand.tmp 41], argTypes := #[3, 3] }, type := 3, pos := "term.go:32", after := #[{ on := 7, ground := Ground.data }, { on := 10, ground := Ground.data }, { on := 4, ground := Ground.chain }], guard := none }, { dst := some 43, op := Op.fieldAddr 30 (Operand.tmp 2) 1, type := 0, pos := "term.go:32", after := #[], guard := none }, { dst := some 44, op := Op.load 28 (Operand.tmp 43), type := 28, pos := "term.go:32", after := #[{ on := 12, ground := Ground.data }], guard := none }, { dst := some 45, op := Op.fieldAddr 30 (Operand.tmp 3) 1, type := 0, pos := "term.go:32", after := #[], guard := none }, { dst := some 46, op := Op.load 28 (Operand.tmp 45), type := 28, pos := "term.go:32", after := #[{ on := 14, ground := Ground.data }], guard := none }, { dst := some 47, op := Op.call { callee := Callee.value (Operand.func 78), args := #[Operand.tmp 44, Operand.tmp 46, Operand.func 36], argTypes := #[28, 28, 49] }, type := 3, pos := "term.go:32", after := #[{ on := 13, ground := Ground.data }, { on := 15, ground := Ground.data }, { on := 11, ground := Ground.chain }], guard := none }, { dst := some 48, op := Op.buildSlice 25 3 #[(0, Operand.tmp 35), (1, Operand.tmp 42), (2, Operand.tmp 47)], type := 25, pos := "term.go:32", after := #[{ on := 4, ground := Ground.data }, { on := 11, ground := Ground.data }, { on := 16, ground := Ground.data }], guard := none }, { dst := some 49, op := Op.call { callee := Callee.value (Operand.func 77), args := #[Operand.tmp 48], argTypes := #[25] }, type := 3, pos := "term.go:32", after := #[{ on := 17, ground := Ground.data }, { on := 16, ground := Ground.chain }], guard := none }, { dst := some 4, op := Op.assign (Operand.tmp 49), type := 3, pos := "term.go:32", after := #[{ on := 18, ground := Ground.data }, { on := 18, ground := Ground.chain }, { on := 0, ground := Ground.phase }, { on := 1, ground := Ground.phase }, { on := 2, ground := Ground.phase }, { on := 3, ground := Ground.phase }, { on := 4, ground := Ground.phase }, { on := 5, ground := Ground.phase }, { on := 6, ground := Ground.phase }, { on := 7, ground := Ground.phase }, { on := 8, ground := Ground.phase }, { on := 9, ground := Ground.phase }, { on := 10, ground := Ground.phase }, { on := 11, ground := Ground.phase }, { on := 12, ground := Ground.phase }, { on := 13, ground := Ground.phase }, { on := 14, ground := Ground.phase }, { on := 15, ground := Ground.phase }, { on := 16, ground := Ground.phase }, { on := 17, ground := Ground.phase }, { on := 18, ground := Ground.phase }], guard := none }] a.tmps.size = true)
    (hT2 : a.tmps.getD 2 undef = .pointer (some ⟨g0, 0, none⟩)) (hX2 : w.heap[g0]? = some (.cells #[.int .i64 f, .slice A nl c] 30 (0, 0)))
    (hT3 : a.tmps.getD 3 undef = .pointer (some ⟨g1, 0, none⟩)) (hX3 : w.heap[g1]? = some (.cells #[.int .i64 g, .slice B nm e] 30 (0, 0)))
    (hF4 : ∀ w1, Below w.heap.size w w1 → Calls Try.prog 76 #[.int .i64 f, .int .i64 g] w1 fun e w2 => e = .returned (.int .i64 c1) ∧ Below w1.heap.size w1 w2)
    (hF11 : ∀ w1, Below w.heap.size w w1 → Calls Try.prog 76 #[.int .i64 (nl : Int), .int .i64 (nm : Int)] w1 fun e w2 => e = .returned (.int .i64 c2) ∧ Below w1.heap.size w1 w2)
    (hF16 : ∀ w1, Below w.heap.size w w1 → Calls Try.prog 78 #[.slice A nl c, .slice B nm e, .func (.func 36) #[] #[]] w1 fun e w2 => e = .returned (.int .i64 c3) ∧ Below w1.heap.size w1 w2)
    (hO : ∀ (w1 : World) (gs : Nat), w1.heap[gs]? = some (.cells #[.int .i64 c1, .int .i64 c2, .int .i64 c3] 3 (0, 0)) → Calls Try.prog 77 #[.slice (some ⟨gs, 0, none⟩) 3 3] w1 fun x w2 => x = .returned (.int .i64 r) ∧ Below w1.heap.size w1 w2) (hle : nl ≤ c) (hme : nm ≤ e)
    (hK : ∀ v w', Below w.heap.size w w' → v 19 = .int .i64 r → Q .normal { tmps := layL [some 31, some 32, some 33, some 34, some 35, some 36, some 37, some 38, some 39, some 40, some 41, some 42, some 43, some 44, some 45, some 46, some 47, some 48, some 49, some 4] 0 v a.tmps, defers := a.defers } w') :
    (Code.region id #[{ dst := some 31, op := Op.fieldAddr 30 (Operand.tmp 2) 0, type := 0, pos := "term.go:32", after := #[], guard := none }, { dst := some 32, op := Op.load 3 (Operand.tmp 31), type := 3, pos := "term.go:32", after := #[{ on := 0, ground := Ground.data }], guard := none }, { dst := some 33, op := Op.fieldAddr 30 (Operand.tmp 3) 0, type := 0, pos := "term.go:32", after := #[], guard := none }, { dst := some 34, op := Op.load 3 (Operand.tmp 33), type := 3, pos := "term.go:32", after := #[{ on := 2, ground := Ground.data }], guard := none }, { dst := some 35, op := Op.call { callee := Callee.value (Operand.func 76), args := #[Operand.tmp 32, Operand.tmp 34], argTypes := #[3, 3] }, type := 3, pos := "term.go:32", after := #[{ on := 1, ground := Ground.data }, { on := 3, ground := Ground.data }], guard := none }, { dst := some 36, op := Op.fieldAddr 30 (Operand.tmp 2) 1, type := 0, pos := "term.go:32", after := #[], guard := none }, { dst := some 37, op := Op.load 28 (Operand.tmp 36), type := 28, pos := "term.go:32", after := #[{ on := 5, ground := Ground.data }], guard := none }, { dst := some 38, op := Op.call { callee := Callee.builtin Builtin.len, args := #[Operand.tmp 37], argTypes := #[28] }, type := 3, pos := "term.go:32", after := #[{ on := 6, ground := Ground.data }], guard := none }, { dst := some 39, op := Op.fieldAddr 30 (Operand.tmp 3) 1, type := 0, pos := "term.go:32", after := #[], guard := none }, { dst := some 40, op := Op.load 28 (Operand.tmp 39), type := 28, pos := "term.go:32", after := #[{ on := 8, ground := Ground.data }], guard := none }, { dst := some 41, op := Op.call { callee := Callee.builtin Builtin.len, args := #[Operand.tmp 40], argTypes := #[28] }, type := 3, pos := "term.go:32", after := #[{ on := 9, ground := Ground.data }], guard := none }, { dst := some 42, op := Op.call { callee := Callee.value (Operand.func 76), args := #[Operand.tmp 38, Operand.tmp 41], argTypes := #[3, 3] }, type := 3, pos := "term.go:32", after := #[{ on := 7, ground := Ground.data }, { on := 10, ground := Ground.data }, { on := 4, ground := Ground.chain }], guard := none }, { dst := some 43, op := Op.fieldAddr 30 (Operand.tmp 2) 1, type := 0, pos := "term.go:32", after := #[], guard := none }, { dst := some 44, op := Op.load 28 (Operand.tmp 43), type := 28, pos := "term.go:32", after := #[{ on := 12, ground := Ground.data }], guard := none }, { dst := some 45, op := Op.fieldAddr 30 (Operand.tmp 3) 1, type := 0, pos := "term.go:32", after := #[], guard := none }, { dst := some 46, op := Op.load 28 (Operand.tmp 45), type := 28, pos := "term.go:32", after := #[{ on := 14, ground := Ground.data }], guard := none }, { dst := some 47, op := Op.call { callee := Callee.value (Operand.func 78), args := #[Operand.tmp 44, Operand.tmp 46, Operand.func 36], argTypes := #[28, 28, 49] }, type := 3, pos := "term.go:32", after := #[{ on := 13, ground := Ground.data }, { on := 15, ground := Ground.data }, { on := 11, ground := Ground.chain }], guard := none }, { dst := some 48, op := Op.buildSlice 25 3 #[(0, Operand.tmp 35), (1, Operand.tmp 42), (2, Operand.tmp 47)], type := 25, pos := "term.go:32", after := #[{ on := 4, ground := Ground.data }, { on := 11, ground := Ground.data }, { on := 16, ground := Ground.data }], guard := none }, { dst := some 49, op := Op.call { callee := Callee.value (Operand.func 77), args := #[Operand.tmp 48], argTypes := #[25] }, type := 3, pos := "term.go:32", after := #[{ on := 17, ground := Ground.data }, { on := 16, ground := Ground.chain }], guard := none }, { dst := some 4, op := Op.assign (Operand.tmp 49), type := 3, pos := "term.go:32", after := #[{ on := 18, ground := Ground.data }, { on := 18, ground := Ground.chain }, { on := 0, ground := Ground.phase }, { on := 1, ground := Ground.phase }, { on := 2, ground := Ground.phase }, { on := 3, ground := Ground.phase }, { on := 4, ground := Ground.phase }, { on := 5, ground := Ground.phase }, { on := 6, ground := Ground.phase }, { on := 7, ground := Ground.phase }, { on := 8, ground := Ground.phase }, { on := 9, ground := Ground.phase }, { on := 10, ground := Ground.phase }, { on := 11, ground := Ground.phase }, { on := 12, ground := Ground.phase }, { on := 13, ground := Ground.phase }, { on := 14, ground := Ground.phase }, { on := 15, ground := Ground.phase }, { on := 16, ground := Ground.phase }, { on := 17, ground := Ground.phase }, { on := 18, ground := Ground.phase }], guard := none }] true).wp Try.prog Q a w := by
  have hmx : Try.prog.follows .mixedOrders = true := by kernel_rfl
  refine region_detR 20 hmx hr (by kernel_rfl) ?_
  refine DetR.is (o := { dst := some 31, op := Op.fieldAddr 30 (Operand.tmp 2) 0, type := 0, pos := "term.go:32", after := #[], guard := none }) (u := ?ux1) rfl (by decide) (fun T w' hb hd hB K hK => ?sx1) ?rx1
  case sx1 =>
    have e2 := (hB 2 (by kernel_rfl)).trans hT2
    have q2_0 : w'.cell? ⟨g0, 0, none⟩ = some (.int .i64 f) := (blk_cell (blk_below hX2 hb) 0).trans rfl
    have q2_1 : w'.cell? ⟨g0, 1, none⟩ = some (.slice A nl c) := (blk_cell (blk_below hX2 hb) 1).trans rfl
    rw [if_pos (wanted_none _ rfl)]
    clear hd hB
    go_simp
    exact hK _ (Below.refl _ _)
  refine DetR.is (o := { dst := some 32, op := Op.load 3 (Operand.tmp 31), type := 3, pos := "term.go:32", after := #[{ on := 0, ground := Ground.data }], guard := none }) (u := ?ux2) rfl (by decide) (fun T w' hb hd hB K hK => ?sx2) ?rx2
  case sx2 =>
    have e31 := hd 0 31 _ (by decide) (by kernel_rfl) rfl rfl
    replace e31 : T.getD 31 undef = _ := e31
    rw [if_pos (wanted_none _ rfl)]
    have q2_0 : w'.cell? ⟨g0, 0, none⟩ = some (.int .i64 f) := (blk_cell (blk_below hX2 hb) 0).trans rfl
    have q2_1 : w'.cell? ⟨g0, 1, none⟩ = some (.slice A nl c) := (blk_cell (blk_below hX2 hb) 1).trans rfl
    have q3_0 : w'.cell? ⟨g1, 0, none⟩ = some (.int .i64 g) := (blk_cell (blk_below hX3 hb) 0).trans rfl
    have q3_1 : w'.cell? ⟨g1, 1, none⟩ = some (.slice B nm e) := (blk_cell (blk_below hX3 hb) 1).trans rfl
    clear hd hB
    go_simp
    exact hK _ (Below.refl _ _)
  refine DetR.is (o := { dst := some 33, op := Op.fieldAddr 30 (Operand.tmp 3) 0, type := 0, pos := "term.go:32", after := #[], guard := none }) (u := ?ux3) rfl (by decide) (fun T w' hb hd hB K hK => ?sx3) ?rx3
  case sx3 =>
    have e3 := (hB 3 (by kernel_rfl)).trans hT3
    have q3_0 : w'.cell? ⟨g1, 0, none⟩ = some (.int .i64 g) := (blk_cell (blk_below hX3 hb) 0).trans rfl
    have q3_1 : w'.cell? ⟨g1, 1, none⟩ = some (.slice B nm e) := (blk_cell (blk_below hX3 hb) 1).trans rfl
    rw [if_pos (wanted_none _ rfl)]
    clear hd hB
    go_simp
    exact hK _ (Below.refl _ _)
  refine DetR.is (o := { dst := some 34, op := Op.load 3 (Operand.tmp 33), type := 3, pos := "term.go:32", after := #[{ on := 2, ground := Ground.data }], guard := none }) (u := ?ux4) rfl (by decide) (fun T w' hb hd hB K hK => ?sx4) ?rx4
  case sx4 =>
    have e33 := hd 2 33 _ (by decide) (by kernel_rfl) rfl rfl
    replace e33 : T.getD 33 undef = _ := e33
    rw [if_pos (wanted_none _ rfl)]
    have q2_0 : w'.cell? ⟨g0, 0, none⟩ = some (.int .i64 f) := (blk_cell (blk_below hX2 hb) 0).trans rfl
    have q2_1 : w'.cell? ⟨g0, 1, none⟩ = some (.slice A nl c) := (blk_cell (blk_below hX2 hb) 1).trans rfl
    have q3_0 : w'.cell? ⟨g1, 0, none⟩ = some (.int .i64 g) := (blk_cell (blk_below hX3 hb) 0).trans rfl
    have q3_1 : w'.cell? ⟨g1, 1, none⟩ = some (.slice B nm e) := (blk_cell (blk_below hX3 hb) 1).trans rfl
    clear hd hB
    go_simp
    exact hK _ (Below.refl _ _)
  refine DetR.is (o := { dst := some 35, op := Op.call { callee := Callee.value (Operand.func 76), args := #[Operand.tmp 32, Operand.tmp 34], argTypes := #[3, 3] }, type := 3, pos := "term.go:32", after := #[{ on := 1, ground := Ground.data }, { on := 3, ground := Ground.data }], guard := none }) (u := ?ux5) rfl (by decide) (fun T w' hb hd hB K hK => ?sx5) ?rx5
  case sx5 =>
    have e32 := hd 1 32 _ (by decide) (by kernel_rfl) rfl rfl
    replace e32 : T.getD 32 undef = _ := e32
    have e34 := hd 3 34 _ (by decide) (by kernel_rfl) rfl rfl
    replace e34 : T.getD 34 undef = _ := e34
    rw [if_pos (wanted_none _ rfl)]
    have hcl := hF4 w' hb
    clear hd hB
    go_simp
    go_at_call 76
    refine hcl.mono ?_
    rintro e w2 ⟨rfl, h2⟩
    exact hK _ h2
  refine DetR.is (o := { dst := some 36, op := Op.fieldAddr 30 (Operand.tmp 2) 1, type := 0, pos := "term.go:32", after := #[], guard := none }) (u := ?ux6) rfl (by decide) (fun T w' hb hd hB K hK => ?sx6) ?rx6
  case sx6 =>
    have e2 := (hB 2 (by kernel_rfl)).trans hT2
    have q2_0 : w'.cell? ⟨g0, 0, none⟩ = some (.int .i64 f) := (blk_cell (blk_below hX2 hb) 0).trans rfl
    have q2_1 : w'.cell? ⟨g0, 1, none⟩ = some (.slice A nl c) := (blk_cell (blk_below hX2 hb) 1).trans rfl
    rw [if_pos (wanted_none _ rfl)]
    clear hd hB
    go_simp
    exact hK _ (Below.refl _ _)
  refine DetR.is (o := { dst := some 37, op := Op.load 28 (Operand.tmp 36), type := 28, pos := "term.go:32", after := #[{ on := 5, ground := Ground.data }], guard := none }) (u := ?ux7) rfl (by decide) (fun T w' hb hd hB K hK => ?sx7) ?rx7
  case sx7 =>
    have e36 := hd 5 36 _ (by decide) (by kernel_rfl) rfl rfl
    replace e36 : T.getD 36 undef = _ := e36
    rw [if_pos (wanted_none _ rfl)]
    have q2_0 : w'.cell? ⟨g0, 0, none⟩ = some (.int .i64 f) := (blk_cell (blk_below hX2 hb) 0).trans rfl
    have q2_1 : w'.cell? ⟨g0, 1, none⟩ = some (.slice A nl c) := (blk_cell (blk_below hX2 hb) 1).trans rfl
    have q3_0 : w'.cell? ⟨g1, 0, none⟩ = some (.int .i64 g) := (blk_cell (blk_below hX3 hb) 0).trans rfl
    have q3_1 : w'.cell? ⟨g1, 1, none⟩ = some (.slice B nm e) := (blk_cell (blk_below hX3 hb) 1).trans rfl
    clear hd hB
    go_simp
    exact hK _ (Below.refl _ _)
  refine DetR.is (o := { dst := some 38, op := Op.call { callee := Callee.builtin Builtin.len, args := #[Operand.tmp 37], argTypes := #[28] }, type := 3, pos := "term.go:32", after := #[{ on := 6, ground := Ground.data }], guard := none }) (u := ?ux8) rfl (by decide) (fun T w' hb hd hB K hK => ?sx8) ?rx8
  case sx8 =>
    have e37 := hd 6 37 _ (by decide) (by kernel_rfl) rfl rfl
    replace e37 : T.getD 37 undef = _ := e37
    rw [if_pos (wanted_none _ rfl)]
    clear hd hB
    go_simp
    exact hK _ (Below.refl _ _)
  refine DetR.is (o := { dst := some 39, op := Op.fieldAddr 30 (Operand.tmp 3) 1, type := 0, pos := "term.go:32", after := #[], guard := none }) (u := ?ux9) rfl (by decide) (fun T w' hb hd hB K hK => ?sx9) ?rx9
  case sx9 =>
    have e3 := (hB 3 (by kernel_rfl)).trans hT3
    have q3_0 : w'.cell? ⟨g1, 0, none⟩ = some (.int .i64 g) := (blk_cell (blk_below hX3 hb) 0).trans rfl
    have q3_1 : w'.cell? ⟨g1, 1, none⟩ = some (.slice B nm e) := (blk_cell (blk_below hX3 hb) 1).trans rfl
    rw [if_pos (wanted_none _ rfl)]
    clear hd hB
    go_simp
    exact hK _ (Below.refl _ _)
  refine DetR.is (o := { dst := some 40, op := Op.load 28 (Operand.tmp 39), type := 28, pos := "term.go:32", after := #[{ on := 8, ground := Ground.data }], guard := none }) (u := ?ux10) rfl (by decide) (fun T w' hb hd hB K hK => ?sx10) ?rx10
  case sx10 =>
    have e39 := hd 8 39 _ (by decide) (by kernel_rfl) rfl rfl
    replace e39 : T.getD 39 undef = _ := e39
    rw [if_pos (wanted_none _ rfl)]
    have q2_0 : w'.cell? ⟨g0, 0, none⟩ = some (.int .i64 f) := (blk_cell (blk_below hX2 hb) 0).trans rfl
    have q2_1 : w'.cell? ⟨g0, 1, none⟩ = some (.slice A nl c) := (blk_cell (blk_below hX2 hb) 1).trans rfl
    have q3_0 : w'.cell? ⟨g1, 0, none⟩ = some (.int .i64 g) := (blk_cell (blk_below hX3 hb) 0).trans rfl
    have q3_1 : w'.cell? ⟨g1, 1, none⟩ = some (.slice B nm e) := (blk_cell (blk_below hX3 hb) 1).trans rfl
    clear hd hB
    go_simp
    exact hK _ (Below.refl _ _)
  refine DetR.is (o := { dst := some 41, op := Op.call { callee := Callee.builtin Builtin.len, args := #[Operand.tmp 40], argTypes := #[28] }, type := 3, pos := "term.go:32", after := #[{ on := 9, ground := Ground.data }], guard := none }) (u := ?ux11) rfl (by decide) (fun T w' hb hd hB K hK => ?sx11) ?rx11
  case sx11 =>
    have e40 := hd 9 40 _ (by decide) (by kernel_rfl) rfl rfl
    replace e40 : T.getD 40 undef = _ := e40
    rw [if_pos (wanted_none _ rfl)]
    clear hd hB
    go_simp
    exact hK _ (Below.refl _ _)
  refine DetR.is (o := { dst := some 42, op := Op.call { callee := Callee.value (Operand.func 76), args := #[Operand.tmp 38, Operand.tmp 41], argTypes := #[3, 3] }, type := 3, pos := "term.go:32", after := #[{ on := 7, ground := Ground.data }, { on := 10, ground := Ground.data }, { on := 4, ground := Ground.chain }], guard := none }) (u := ?ux12) rfl (by decide) (fun T w' hb hd hB K hK => ?sx12) ?rx12
  case sx12 =>
    have e38 := hd 7 38 _ (by decide) (by kernel_rfl) rfl rfl
    replace e38 : T.getD 38 undef = _ := e38
    have e41 := hd 10 41 _ (by decide) (by kernel_rfl) rfl rfl
    replace e41 : T.getD 41 undef = _ := e41
    rw [if_pos (wanted_none _ rfl)]
    have hcl := hF11 w' hb
    clear hd hB
    go_simp
    go_at_call 76
    refine hcl.mono ?_
    rintro e w2 ⟨rfl, h2⟩
    exact hK _ h2
  refine DetR.is (o := { dst := some 43, op := Op.fieldAddr 30 (Operand.tmp 2) 1, type := 0, pos := "term.go:32", after := #[], guard := none }) (u := ?ux13) rfl (by decide) (fun T w' hb hd hB K hK => ?sx13) ?rx13
  case sx13 =>
    have e2 := (hB 2 (by kernel_rfl)).trans hT2
    have q2_0 : w'.cell? ⟨g0, 0, none⟩ = some (.int .i64 f) := (blk_cell (blk_below hX2 hb) 0).trans rfl
    have q2_1 : w'.cell? ⟨g0, 1, none⟩ = some (.slice A nl c) := (blk_cell (blk_below hX2 hb) 1).trans rfl
    rw [if_pos (wanted_none _ rfl)]
    clear hd hB
    go_simp
    exact hK _ (Below.refl _ _)
  refine DetR.is (o := { dst := some 44, op := Op.load 28 (Operand.tmp 43), type := 28, pos := "term.go:32", after := #[{ on := 12, ground := Ground.data }], guard := none }) (u := ?ux14) rfl (by decide) (fun T w' hb hd hB K hK => ?sx14) ?rx14
  case sx14 =>
    have e43 := hd 12 43 _ (by decide) (by kernel_rfl) rfl rfl
    replace e43 : T.getD 43 undef = _ := e43
    rw [if_pos (wanted_none _ rfl)]
    have q2_0 : w'.cell? ⟨g0, 0, none⟩ = some (.int .i64 f) := (blk_cell (blk_below hX2 hb) 0).trans rfl
    have q2_1 : w'.cell? ⟨g0, 1, none⟩ = some (.slice A nl c) := (blk_cell (blk_below hX2 hb) 1).trans rfl
    have q3_0 : w'.cell? ⟨g1, 0, none⟩ = some (.int .i64 g) := (blk_cell (blk_below hX3 hb) 0).trans rfl
    have q3_1 : w'.cell? ⟨g1, 1, none⟩ = some (.slice B nm e) := (blk_cell (blk_below hX3 hb) 1).trans rfl
    clear hd hB
    go_simp
    exact hK _ (Below.refl _ _)
  refine DetR.is (o := { dst := some 45, op := Op.fieldAddr 30 (Operand.tmp 3) 1, type := 0, pos := "term.go:32", after := #[], guard := none }) (u := ?ux15) rfl (by decide) (fun T w' hb hd hB K hK => ?sx15) ?rx15
  case sx15 =>
    have e3 := (hB 3 (by kernel_rfl)).trans hT3
    have q3_0 : w'.cell? ⟨g1, 0, none⟩ = some (.int .i64 g) := (blk_cell (blk_below hX3 hb) 0).trans rfl
    have q3_1 : w'.cell? ⟨g1, 1, none⟩ = some (.slice B nm e) := (blk_cell (blk_below hX3 hb) 1).trans rfl
    rw [if_pos (wanted_none _ rfl)]
    clear hd hB
    go_simp
    exact hK _ (Below.refl _ _)
  refine DetR.is (o := { dst := some 46, op := Op.load 28 (Operand.tmp 45), type := 28, pos := "term.go:32", after := #[{ on := 14, ground := Ground.data }], guard := none }) (u := ?ux16) rfl (by decide) (fun T w' hb hd hB K hK => ?sx16) ?rx16
  case sx16 =>
    have e45 := hd 14 45 _ (by decide) (by kernel_rfl) rfl rfl
    replace e45 : T.getD 45 undef = _ := e45
    rw [if_pos (wanted_none _ rfl)]
    have q2_0 : w'.cell? ⟨g0, 0, none⟩ = some (.int .i64 f) := (blk_cell (blk_below hX2 hb) 0).trans rfl
    have q2_1 : w'.cell? ⟨g0, 1, none⟩ = some (.slice A nl c) := (blk_cell (blk_below hX2 hb) 1).trans rfl
    have q3_0 : w'.cell? ⟨g1, 0, none⟩ = some (.int .i64 g) := (blk_cell (blk_below hX3 hb) 0).trans rfl
    have q3_1 : w'.cell? ⟨g1, 1, none⟩ = some (.slice B nm e) := (blk_cell (blk_below hX3 hb) 1).trans rfl
    clear hd hB
    go_simp
    exact hK _ (Below.refl _ _)
  refine DetR.is (o := { dst := some 47, op := Op.call { callee := Callee.value (Operand.func 78), args := #[Operand.tmp 44, Operand.tmp 46, Operand.func 36], argTypes := #[28, 28, 49] }, type := 3, pos := "term.go:32", after := #[{ on := 13, ground := Ground.data }, { on := 15, ground := Ground.data }, { on := 11, ground := Ground.chain }], guard := none }) (u := ?ux17) rfl (by decide) (fun T w' hb hd hB K hK => ?sx17) ?rx17
  case sx17 =>
    have e44 := hd 13 44 _ (by decide) (by kernel_rfl) rfl rfl
    replace e44 : T.getD 44 undef = _ := e44
    have e46 := hd 15 46 _ (by decide) (by kernel_rfl) rfl rfl
    replace e46 : T.getD 46 undef = _ := e46
    rw [if_pos (wanted_none _ rfl)]
    have hcl := hF16 w' hb
    clear hd hB
    go_simp
    go_at_call 78
    refine hcl.mono ?_
    rintro e w2 ⟨rfl, h2⟩
    exact hK _ h2
  refine DetR.cons (o := { dst := some 48, op := Op.buildSlice 25 3 #[(0, Operand.tmp 35), (1, Operand.tmp 42), (2, Operand.tmp 47)], type := 25, pos := "term.go:32", after := #[{ on := 4, ground := Ground.data }, { on := 11, ground := Ground.data }, { on := 16, ground := Ground.data }], guard := none }) (BlockTold 0 (fun g => .slice (some ⟨g, 0, none⟩) 3 3) #[.int .i64 c1, .int .i64 c2, .int .i64 c3] 3) rfl (by decide) (BlockTold.grows _ _ _ _) (fun T w' hb hd hB K hK => ?sx18) ?rx18
  case sx18 =>
    have e35 := hd 4 35 _ (by decide) (by kernel_rfl) rfl rfl
    replace e35 : T.getD 35 undef = _ := e35
    have e42 := hd 11 42 _ (by decide) (by kernel_rfl) rfl rfl
    replace e42 : T.getD 42 undef = _ := e42
    have e47 := hd 16 47 _ (by decide) (by kernel_rfl) rfl rfl
    replace e47 : T.getD 47 undef = _ := e47
    rw [if_pos (wanted_none _ rfl)]
    have z35 : T[35]?.getD undef = _ := Array.getD_eq_getD_getElem?.symm.trans e35
    have z42 : T[42]?.getD undef = _ := Array.getD_eq_getD_getElem?.symm.trans e42
    have z47 : T[47]?.getD undef = _ := Array.getD_eq_getD_getElem?.symm.trans e47
    clear hd hB
    go_simp
    exact hK _ _ (below_alloc (Below.refl _ _) _) ⟨w'.heap.size, rfl, Nat.zero_le _, heap_alloc_new _ _⟩
  refine DetR.is (o := { dst := some 49, op := Op.call { callee := Callee.value (Operand.func 77), args := #[Operand.tmp 48], argTypes := #[25] }, type := 3, pos := "term.go:32", after := #[{ on := 17, ground := Ground.data }, { on := 16, ground := Ground.chain }], guard := none }) (u := ?ux19) rfl (by decide) (fun T w' hb hd hB K hK => ?sx19) ?rx19
  case sx19 =>
    obtain ⟨gs, e48, hge, hbs⟩ := (hd 17 48 _ (by decide) (by kernel_rfl) rfl rfl)
    rw [if_pos (wanted_none _ rfl)]
    have hcl := hO w' gs hbs
    clear hd hB
    go_simp
    go_at_call 77
    refine hcl.mono ?_
    rintro e w2 ⟨rfl, h2⟩
    exact hK _ h2
  refine DetR.is (o := { dst := some 4, op := Op.assign (Operand.tmp 49), type := 3, pos := "term.go:32", after := #[{ on := 18, ground := Ground.data }, { on := 18, ground := Ground.chain }, { on := 0, ground := Ground.phase }, { on := 1, ground := Ground.phase }, { on := 2, ground := Ground.phase }, { on := 3, ground := Ground.phase }, { on := 4, ground := Ground.phase }, { on := 5, ground := Ground.phase }, { on := 6, ground := Ground.phase }, { on := 7, ground := Ground.phase }, { on := 8, ground := Ground.phase }, { on := 9, ground := Ground.phase }, { on := 10, ground := Ground.phase }, { on := 11, ground := Ground.phase }, { on := 12, ground := Ground.phase }, { on := 13, ground := Ground.phase }, { on := 14, ground := Ground.phase }, { on := 15, ground := Ground.phase }, { on := 16, ground := Ground.phase }, { on := 17, ground := Ground.phase }, { on := 18, ground := Ground.phase }], guard := none }) (u := ?ux20) rfl (by decide) (fun T w' hb hd hB K hK => ?sx20) ?rx20
  case sx20 =>
    have e49 := hd 18 49 _ (by decide) (by kernel_rfl) rfl rfl
    replace e49 : T.getD 49 undef = _ := e49
    rw [if_pos (wanted_none _ rfl)]
    clear hd hB
    go_simp
    exact hK _ (Below.refl _ _)
  refine DetR.done [some 31, some 32, some 33, some 34, some 35, some 36, some 37, some 38, some 39, some 40, some 41, some 42, some 43, some 44, some 45, some 46, some 47, some 48, some 49, some 4] (by kernel_rfl) rfl (by kernel_rfl) ?_
  intro v w' hb hv
  exact hK v w' hb (hv 19 _ (by decide) rfl)

/-- What is asked of a term: to be compared with whatever other one. -/
def CmpAny (x : S30) : Prop := ∀ (y : S30) (A B : Option Addr) (c e : Nat) (w : World), k30.C w A x.f1.length x.f1 → x.f1.length ≤ c → k30.C w B y.f1.length y.f1 → y.f1.length ≤ e →
  Calls Try.prog 36 #[.agg #[.int .i64 x.f0, .slice A x.f1.length c], .agg #[.int .i64 y.f0, .slice B y.f1.length e]] w fun r w' => r = .returned (.int .i64 (cmpT x y)) ∧ Below w.heap.size w w'
theorem cmpTs_at (l m : List S30) (k : Nat) (hl : k < l.length) (hm : k < m.length) : cmpTs (l.drop k) (m.drop k) = if cmpT l[k] m[k] = 0 then cmpTs (l.drop (k + 1)) (m.drop (k + 1)) else cmpT l[k] m[k] := by
  rw [List.drop_eq_getElem_cons hl, List.drop_eq_getElem_cons hm, cmpTs]
theorem cell_lt' {w : World} {a : Addr} {v : Value} (h : w.cell? a = some v) : a.block < w.heap.size := by
  unfold World.cell? at h
  rcases Nat.lt_or_ge a.block w.heap.size with hlt | hge
  · exact hlt
  · rw [Array.getElem?_eq_none hge] at h
    simp at h
theorem rd30_at (l : List S30) (k : Nat) (h : k < l.length) : rd_T30 l (k : Int) = l[k] := by
  unfold rd_T30
  simp [List.getD, List.getElem?_eq_getElem h]
set_option maxHeartbeats 4000000 in
set_option maxRecDepth 100000 in
theorem CompareFunc_any (l m : List S30) (ih : ∀ x ∈ l, CmpAny x) (A B : Option Addr) (c e : Nat) (w : World) (hA : k30.C w A l.length l) (hc : l.length ≤ c) (hB : k30.C w B m.length m) (he : m.length ≤ e) :
    Calls Try.prog 78 #[.slice A l.length c, .slice B m.length e, .func (.func 36) #[] #[]] w fun r w' => r = .returned (.int .i64 (cmpTs l m)) ∧ Below w.heap.size w w' := by
  have hll : l.length ≤ 9223372036854775807 := hA.2.1
  have hml : m.length ≤ 9223372036854775807 := hB.2.1
  have hAz := Aside0.mk hA
  have hBz := Aside0.mk hB
  have hIz := Aside0.mk ih
  clear hA hB ih
  go_enter Try.func78, Try.ntmps78
  go_wp2
  go_loopw [13] (fun i wr => ∃ k : Nat, k ≤ l.length ∧ i = .int .i64 k ∧ Aside0 (k ≤ m.length) ∧ Aside0 (cmpTs l m = cmpTs (l.drop k) (m.drop k)) ∧ Aside0 (Below w.heap.size w wr)) (fun i wr => l.length - (intOf i).toNat)
  case atStart => exact ⟨0, Nat.zero_le _, rfl, ⟨Nat.zero_le _⟩, ⟨rfl⟩, ⟨Below.refl _ _⟩⟩
  case round =>
    obtain ⟨k, hk, rfl, hkm, hcm, hb⟩ := hrel
    by_cases hlt : k < l.length
    · obtain ⟨ad, A1, c1, rfl, hx0, hx1, hl1, hC1⟩ := at_T30 (Kd.C_below hAz.out hb.out) (k : Int) (by omega) (by omega)
      rw [rd30_at l k hlt] at hx0 hx1 hl1 hC1
      rw [Int.toNat_natCast] at hx0 hx1
      have hC1 := Aside0.mk hC1
      by_cases hlm : k < m.length
      · obtain ⟨bd, B1, e1, rfl, hy0, hy1, hm1, hD1⟩ := at_T30 (Kd.C_below hBz.out hb.out) (k : Int) (by omega) (by omega)
        rw [rd30_at m k hlm] at hy0 hy1 hm1 hD1
        rw [Int.toNat_natCast] at hy0 hy1
        have hD1 := Aside0.mk hD1
        have hat := cmpTs_at l m k hlt hlm
        have hih := Aside0.mk (hIz.out l[k] (List.getElem_mem hlt) m[k])
        generalize hxk : l[k] = x at hx0 hx1 hl1 hC1 hat hih
        generalize hyk : m[k] = y at hy0 hy1 hm1 hD1 hat hih
        obtain ⟨r, hr⟩ : ∃ r, r = cmpT x y := ⟨_, rfl⟩
        rw [← hr] at hat
        have hrz := Aside0.mk hr
        have hatz := Aside0.mk hat
        clear hxk hyk hat hr
        have hba := below_alloc (Below.refl wr.heap.size wr) (.cells #[.int .i64 x.f0, .slice A1 x.f1.length c1] 30)
        have hz0 := (hba.cell (cell_lt' hy0)).trans hy0
        have hz1 := (hba.cell (cell_lt' hy1)).trans hy1
        clear hba
        have hin : Aside0 (∀ W, Below wr.heap.size wr W → Calls Try.prog 36 #[.agg #[.int .i64 x.f0, .slice A1 x.f1.length c1], .agg #[.int .i64 y.f0, .slice B1 y.f1.length e1]] W fun q w' => q = .returned (.int .i64 r) ∧ Below W.heap.size W w') := ⟨fun W hW => by rw [hrz.out]; exact hih.out A1 B1 c1 e1 W (Kd.C_below hC1.out hW) hl1 (Kd.C_below hD1.out hW) hm1⟩
        clear hih hrz
        by_cases hr0 : r = 0
        · subst hr0
          go_wp2_with (go_at_call 36; refine (hin.out _ (below_alloc (below_alloc (Below.refl _ _) _) _)).mono ?_; rintro q w3 ⟨rfl, hb3⟩; have hb4 : Below w.heap.size w w3 := (hb.out.trans ((below_alloc (below_alloc (Below.refl _ _) _) _ : Below wr.heap.size wr _).mono hb.out.size)).trans (hb3.mono (by have := hb.out.size; simp; omega)); have hb5 := Aside0.mk hb4; clear hb3 hb4)
          go_roundw
          case rel => exact ⟨k + 1, by omega, by go_num, ⟨by omega⟩, ⟨by rw [hcm.out, hatz.out]; simp⟩, hb5⟩
          case measure => simp [intOf]; omega
        · have hr1 : (r == 0) = false := by simpa using hr0
          have hr2 : (r != 0) = true := by simpa using hr0
          go_wp2_with (go_at_call 36; refine (hin.out _ (below_alloc (below_alloc (Below.refl _ _) _) _)).mono ?_; rintro q w3 ⟨rfl, hb3⟩; have hb4 : Below w.heap.size w w3 := (hb.out.trans ((below_alloc (below_alloc (Below.refl _ _) _) _ : Below wr.heap.size wr _).mono hb.out.size)).trans (hb3.mono (by have := hb.out.size; simp; omega)); have hb5 := Aside0.mk hb4; clear hb3 hb4)
          have hres : cmpTs l m = r := by rw [hcm.out, hatz.out, if_neg hr0]
          go_ret
          rw [hres]
          exact ⟨rfl, hb5.out⟩
      · have hres : cmpTs l m = 1 := by
          have hke : k = m.length := by have := hkm.out; omega
          rw [hcm.out, hke, List.drop_length, List.drop_eq_getElem_cons (by omega), cmpTs]
        have hge : (m.length : Int) ≤ (k : Int) := by omega
        generalize l[k] = x at hx0 hx1 hl1 hC1
        go_wp2
        go_ret
        rw [hres]
        exact ⟨rfl, below_alloc hb.out _⟩
    · have hke : k = l.length := by omega
      have hkm' := hkm.out
      by_cases hlm : l.length < m.length
      · have hres : cmpTs l m = -1 := by rw [hcm.out, hke, List.drop_length, List.drop_eq_getElem_cons (by omega), cmpTs]
        go_wp2
        go_ret
        rw [hres]
        exact ⟨rfl, hb.out⟩
      · have hres : cmpTs l m = 0 := by rw [hcm.out, hke, List.drop_length, show l.length = m.length by omega, List.drop_length, cmpTs]
        go_wp2
        go_ret
        rw [hres]
        exact ⟨rfl, hb.out⟩
set_option maxHeartbeats 4000000 in
set_option maxRecDepth 100000 in
theorem Compare_any : ∀ x : S30, CmpAny x := by
  refine S30.ind ?_
  intro f l ih y A B c e w hA hc hB he
  obtain ⟨g, m⟩ := y
  simp only at hA hc hB he
  have hc76 := fun (a b : Int) (w1 : World) => cmp_Compare_int.calls a b _ w1 (cmpI_f a b)
  have hIz := Aside0.mk ih
  have hCF := Aside0.mk (fun w1 (hb : Below w.heap.size w w1) => CompareFunc_any l m ih A B c e w1 (Kd.C_below hA hb) hc (Kd.C_below hB hb) he)
  have h76 := Aside0.mk hc76
  clear hc76 hA hB ih hIz
  go_enter Try.func36, Try.ntmps36
  by_cases hv : f < 0 ∨ g < 0
  · by_cases h2 : f < 0 ∧ g < 0
    · have hres : cmpT ⟨f, l⟩ ⟨g, m⟩ = cmpI g f := by rw [cmpT, if_pos hv, if_pos h2]
      have hf1 : decide (f < 0) = true := decide_eq_true h2.1
      have hg1 : decide (g < 0) = true := decide_eq_true h2.2
      clear hv h2
      go_wp2_with (go_at_call 76; refine (h76.out _ _ _).mono ?_; rintro q w1 ⟨rfl, hd⟩; have hb1 := Aside0.mk (hd.below); clear hd)
      go_ret
      rw [hres]
      exact ⟨rfl, (below_alloc (below_alloc (Below.refl _ _) _) _).trans (hb1.out.mono (by simp; omega))⟩
    · have hres : cmpT ⟨f, l⟩ ⟨g, m⟩ = cmpI f g := by rw [cmpT, if_pos hv, if_neg h2]
      by_cases hf : f < 0
      · have hf1 : decide (f < 0) = true := decide_eq_true hf
        have hg1 : decide (g < 0) = false := decide_eq_false (fun h => h2 ⟨hf, h⟩)
        clear hv h2
        go_wp2_with (go_at_call 76; refine (h76.out _ _ _).mono ?_; rintro q w1 ⟨rfl, hd⟩; have hb1 := Aside0.mk (hd.below); clear hd)
        go_ret
        rw [hres]
        exact ⟨rfl, (below_alloc (below_alloc (Below.refl _ _) _) _).trans (hb1.out.mono (by simp; omega))⟩
      · have hf1 : decide (f < 0) = false := decide_eq_false hf
        have hg1 : decide (g < 0) = true := decide_eq_true (hv.resolve_left hf)
        clear hv h2
        go_wp2_with (go_at_call 76; refine (h76.out _ _ _).mono ?_; rintro q w1 ⟨rfl, hd⟩; have hb1 := Aside0.mk (hd.below); clear hd)
        go_ret
        rw [hres]
        exact ⟨rfl, (below_alloc (below_alloc (Below.refl _ _) _) _).trans (hb1.out.mono (by simp; omega))⟩
  · have hres : cmpT ⟨f, l⟩ ⟨g, m⟩ = orI (cmpI f g) (cmpI l.length m.length) (cmpTs l m) := by rw [cmpT, if_neg hv]
    have hf1 : decide (f < 0) = false := decide_eq_false (fun h => hv (.inl h))
    have hg1 : decide (g < 0) = false := decide_eq_false (fun h => hv (.inr h))
    obtain ⟨r, hr⟩ : ∃ r, r = orI (cmpI f g) (cmpI l.length m.length) (cmpTs l m) := ⟨_, rfl⟩
    obtain ⟨ko, hko⟩ := (orI_f (cmpI f g) (cmpI l.length m.length) (cmpTs l m)).rounds
    rw [← hr] at hres hko
    have hkz := Aside0.mk hko
    clear hv hr hko
    go_wp2
    refine Compare_r5 (f := f) (g := g) (c1 := cmpI f g) (c2 := cmpI l.length m.length) (c3 := cmpTs l m) (r := r) (A := A) (B := B) (nl := l.length) (nm := m.length) (c := c) (e := e) (g0 := w.heap.size) (g1 := w.heap.size + 1) (by kernel_rfl) rfl (blk_alloc (heap_alloc_new _ _) _) rfl ?_ ?_ ?_ ?_ ?_ hc he ?_
    · have := heap_alloc_new (w.alloc (.cells #[.int .i64 f, .slice A l.length c] 30)) (.cells #[.int .i64 g, .slice B m.length e] 30)
      rw [World.size_alloc] at this
      exact this
    · intro w1 hb; exact (h76.out _ _ _).mono (fun q w2 h => ⟨h.1, h.2.below⟩)
    · intro w1 hb; exact (h76.out _ _ _).mono (fun q w2 h => ⟨h.1, h.2.below⟩)
    · intro w1 hb; exact hCF.out w1 ((below_alloc (below_alloc (Below.refl _ _) _) _).trans (hb.mono (by simp; omega)))
    · intro w1 gs hgs
      refine (cmp_Or_int.calls ko (some ⟨gs, 0, none⟩) 3 [cmpI f g, cmpI l.length m.length, cmpTs l m] r w1 ?_ (by simp) hkz.out).mono (fun q w2 h => ⟨h.1, h.2.below⟩)
      refine ⟨rfl, by simp, fun _ => ⟨_, rfl, fun j p hj => ?_⟩⟩
      have hcell := fun i => blk_cell hgs i
      match j with
      | 0 => simp at hj; subst hj; exact ⟨[.int .i64 _], rfl, rfl, fun i u hi => by (match i with | 0 => simp at hi; subst hi; exact (hcell 0).trans rfl | i + 1 => simp at hi)⟩
      | 1 => simp at hj; subst hj; exact ⟨[.int .i64 _], rfl, rfl, fun i u hi => by (match i with | 0 => simp at hi; subst hi; exact (hcell 1).trans rfl | i + 1 => simp at hi)⟩
      | 2 => simp at hj; subst hj; exact ⟨[.int .i64 _], rfl, rfl, fun i u hi => by (match i with | 0 => simp at hi; subst hi; exact (hcell 2).trans rfl | i + 1 => simp at hi)⟩
      | j + 3 => simp at hj
    intro v w2 hb2 hv19
    simp only [layL, Nat.reduceAdd, List.setIfInBounds_toArray, List.set_cons_zero, List.set_cons_succ, hv19]
    have hb2 := Aside0.mk hb2
    clear hv19
    go_wp2
    go_ret
    rw [hres]
    exact ⟨rfl, (below_alloc (below_alloc (Below.refl _ _) _) _).trans (hb2.out.mono (by simp; omega))⟩
theorem term_Compare.calls (a0_0 : Int) (A0_1 : Option Addr) (c0_1 : Nat) (l0_1 : List S30) (a1_0 : Int) (A1_1 : Option Addr) (c1_1 : Nat) (l1_1 : List S30) (r : Int) (w : World) (hr0_1 : Kd.C k30 w A0_1 l0_1.length l0_1) (hc0_1 : l0_1.length ≤ c0_1) (hr1_1 : Kd.C k30 w A1_1 l1_1.length l1_1) (hc1_1 : l1_1.length ≤ c1_1) (h : term_Compare.f a0_0 l0_1 a1_0 l1_1 = some r) :
    Calls Try.prog 36 #[.agg #[.int .i64 a0_0, .slice A0_1 l0_1.length c0_1], .agg #[.int .i64 a1_0, .slice A1_1 l1_1.length c1_1]] w fun e w' => e = .returned (.int .i64 r) ∧ Below w.heap.size w w' := by
  unfold term_Compare.f at h
  obtain rfl := Option.some.inj h
  exact Compare_any ⟨a0_0, l0_1⟩ ⟨a1_0, l1_1⟩ A0_1 A1_1 c0_1 c1_1 w hr0_1 hc0_1 hr1_1 hc1_1
end Go.Proofs.Ytpfddihcikiofaa.P
end

section
/- term.walk: for whatever loop body that keeps what is not its own. -/
namespace Go.Proofs.Ytpfddihcikiofaa.P
open Go.RowKit Go.Shelf Go.Proofs.YtpfddihcikiofaaW.PrintWords Go.Proofs.YtpfddihcikiofaaW.PrintLast Go.Proofs.YtpfddihcikiofaaW.PrintMore
set_option linter.unusedVariables false
set_option linter.unusedSimpArgs false
attribute [local go_sem] Oper.semAt_some

/-- All blocks but those of S lie as they lay. -/
structure Keeps (W W' : World) (S : Nat → Prop) : Prop where
  os : W'.os = W.os
  tape : W'.tape = W.tape
  output : W'.output = W.output
  size : W.heap.size ≤ W'.heap.size
  block : ∀ k, k < W.heap.size → ¬ S k → W'.heap[k]? = W.heap[k]?
theorem Keeps.refl (W : World) (S : Nat → Prop) : Keeps W W S := ⟨rfl, rfl, rfl, Nat.le_refl _, fun _ _ _ => rfl⟩
theorem Keeps.of_below {W W' : World} (h : Below W.heap.size W W') (S : Nat → Prop) : Keeps W W' S := ⟨h.os, h.tape, h.output, h.size, fun k hk _ => h.block k hk⟩
theorem Keeps.trans {W W' W2 : World} {S S' : Nat → Prop} (h : Keeps W W' S) (k : Keeps W' W2 S') (hs : ∀ b, S' b → S b ∨ W.heap.size ≤ b) : Keeps W W2 S :=
  ⟨k.os.trans h.os, k.tape.trans h.tape, k.output.trans h.output, Nat.le_trans h.size k.size, fun b hb hn => (k.block b (Nat.lt_of_lt_of_le hb h.size) (fun h2 => (hs b h2).elim hn (by omega))).trans (h.block b hb hn)⟩
theorem Keeps.below {W W' W2 : World} {S : Nat → Prop} (h : Keeps W W' S) (k : Below W'.heap.size W' W2) : Keeps W W2 S := h.trans (Keeps.of_below k (fun _ => False)) (fun _ h => h.elim)
theorem Keeps.drewN (W : World) (S : Nat → Prop) (n : Nat) : Keeps W (W.drewN n) S := Keeps.of_below (pw_below_drewN (Below.refl _ _) n) S
theorem Keeps.mono {W W' : World} {S S' : Nat → Prop} (h : Keeps W W' S) (hs : ∀ k, S k → S' k) : Keeps W W' S' := ⟨h.os, h.tape, h.output, h.size, fun k hk hn => h.block k hk (fun h2 => hn (hs k h2))⟩
theorem Keeps.toBelow {W W' : World} {S : Nat → Prop} {B : Nat} (h : Keeps W W' S) (hB : B ≤ W.heap.size) (hs : ∀ b, S b → B ≤ b) : Below B W W' :=
  ⟨h.os, h.tape, h.output, h.size, fun k hk => h.block k (by omega) (fun h2 => by have := hs k h2; omega)⟩
theorem Keeps.blk {W W' : World} {S : Nat → Prop} (h : Keeps W W' S) {b : Nat} {o : Obj} (hb : W.heap[b]? = some o) (hn : ¬ S b) : W'.heap[b]? = some o := (h.block b (blk_lt hb) hn).trans hb
/-- What is read outside of S: carried over a round. -/
theorem Keeps.F {α : Type} {d : Kd α} {W W' : World} {S S' : Nat → Prop} {A : Option Addr} {n : Nat} {xs : List α} (h : Keeps W W' S) (hs : ∀ b, S' b → S b ∨ W.heap.size ≤ b) (hf : Kd.F d W (fun k => ¬ S k) A n xs) : Kd.F d W' (fun k => ¬ S' k) A n xs :=
  Kd.F_mono (Kd.F_step (Kd.F_bound hf) (fun k hk hlt => h.block k hlt hk.1)) (fun k hk h2 => (hs k h2).elim hk.1 (fun h3 => by have := hk.2; omega))

theorem wide_any (k : Nat) : Fence.wide.depth.isSome = true → 1 ≤ k := fun h => by cases h
theorem parts_neg (f : Int) (v : Value) (w : World) (hf : decide (f < 0) = true) : Calls Try.prog 74 #[.agg #[.int .i64 f, v]] w fun e w' => e = .returned (.slice none 0 0) ∧ w' = w.alloc (.cells #[.int .i64 f, v] 30) := by
  go_enter Try.func74, Try.ntmps74
  go_wp2
  go_ret
  exact ⟨rfl, rfl⟩
theorem parts_pos (f : Int) (A : Option Addr) (n c : Nat) (w : World) (hf : decide (f < 0) = false) : Calls Try.prog 74 #[.agg #[.int .i64 f, .slice A n c]] w fun e w' => e = .returned (.slice A n c) ∧ w' = w.alloc (.cells #[.int .i64 f, .slice A n c] 30) := by
  go_enter Try.func74, Try.ntmps74
  go_wp2
  go_ret
  exact ⟨rfl, rfl⟩
theorem clip_any (A : Option Addr) (n c : Nat) (w : World) (h : n ≤ c) (hn : n ≤ 9223372036854775807) : Calls Try.prog 109 #[.slice A n c] w fun e w' => e = .returned (.slice A n n) ∧ w' = w := by
  go_enter Try.func109, Try.ntmps109
  go_wp2
  go_ret
  exact ⟨rfl, rfl⟩
/-- What is asked of a round: yield at the element (p, s), told in W. -/
def Yields (l : Nat) (J : (Nat → Prop) → List (List Int × S30) → World → Prop) (N : Nat) : Prop :=
  ∀ (m : Nat) (S : Nat → Prop) (pre : List (List Int × S30)) (p : List Int) (s : S30) (A : Option Addr) (c : Nat) (As : Option Addr) (cs : Nat) (W : World), J S pre W → pre.length < N → p.length ≤ 1099511627776 →
    Kd.F (Kd.int .i64) W (fun k => ¬ S k) A p.length p → p.length ≤ c → Kd.F k30 W (fun k => ¬ S k) As s.f1.length s.f1 → s.f1.length ≤ cs →
    YieldAt Fence.wide m Try.prog l #[.slice A p.length c, .agg #[.int .i64 s.f0, .slice As s.f1.length cs]] W fun e W' => e = .returned (.bool true) ∧ ∃ S' : Nat → Prop, J S' (pre ++ [(p, s)]) W' ∧ Keeps W W' S ∧ ∀ k, S' k → S k ∨ W.heap.size ≤ k

def WalkPost (J : (Nat → Prop) → List (List Int × S30) → World → Prop) (S : Nat → Prop) (pre : List (List Int × S30)) (W : World) (e : Ending) (W' : World) : Prop :=
  e = .returned (.bool true) ∧ ∃ S' : Nat → Prop, J S' pre W' ∧ Keeps W W' S ∧ ∀ k, S' k → S k ∨ W.heap.size ≤ k

set_option maxRecDepth 100000 in
set_option maxHeartbeats 4000000 in
theorem walkIn_ (l N : Nat) (J : (Nat → Prop) → List (List Int × S30) → World → Prop) (hJb : ∀ S pre W, J S pre W → ∀ k, S k → k < W.heap.size)
    (hJs : ∀ S pre W W', J S pre W → Below W.heap.size W W' → J S pre W') (hY : Yields l J N) (t : S30) :
    ∀ (n : Nat) (S : Nat → Prop) (p : List Int) (A : Option Addr) (c : Nat) (As : Option Addr) (cs : Nat) (pre : List (List Int × S30)) (W : World), J S pre W →
      Kd.F (Kd.int .i64) W (fun k => ¬ S k) A p.length p → p.length ≤ c → Kd.F k30 W (fun k => ¬ S k) As t.f1.length t.f1 → t.f1.length ≤ cs → pre.length + (flatP p t).length ≤ N → p.length + (flatP p t).length ≤ 1099511627776 →
      CallsIn Fence.wide n Try.prog 104 #[.slice A p.length c, .agg #[.int .i64 t.f0, .slice As t.f1.length cs], .func (.yield l) #[] #[]] W (WalkPost J S (pre ++ flatP p t) W) := by
  induction t using S30.ind with
  | h f kids ih =>
  intro n S p A c As cs pre W hJ hp hpc ht htc hN hM
  dsimp only at ht htc ⊢
  have hbox : (W.alloc (.cells #[.int .i64 f, .slice As kids.length cs] 30)).heap[W.heap.size]? = some (.cells #[.int .i64 f, .slice As kids.length cs] 30 (0, 0)) := heap_alloc_new W _
  have hb1 : Below W.heap.size W (W.alloc (.cells #[.int .i64 f, .slice As kids.length cs] 30)) := below_alloc (Below.refl _ _) _
  obtain ⟨fn, tmps, assign, body, hy, hR⟩ := hY (n - 1) S pre p ⟨f, kids⟩ A c As cs _ (hJs _ _ _ _ hJ hb1) (by simp [flatP] at hN; omega) (by omega) (Kd.F_below hp hb1) hpc (Kd.F_below ht hb1) htc
  dsimp only at hy
  refine callsIn_of_wp Try.func104 rfl trivial ?_ rfl
  simp only [Try.ntmps104, List.size_toArray, List.length_cons, List.length_nil, Nat.reduceAdd, Nat.reduceSub, Array.replicate_succ, Array.replicate_zero, List.push_toArray, List.append_toArray, List.nil_append, List.cons_append]
  gi_wp2
  refine ⟨wide_any _, ?_⟩
  refine hR.mono ?_
  clear hR hy
  rintro e W2 ⟨rfl, S2, hJ2, hk2, hs2⟩
  have hS : ¬ S W.heap.size := fun h => by have := hJb _ _ _ hJ _ h; omega
  have hbox2 := hk2.blk hbox hS
  have hp2 := hk2.F hs2 (Kd.F_below hp hb1)
  have ht2 := hk2.F hs2 (Kd.F_below ht hb1)
  have hK2 := (Keeps.of_below hb1 S).trans hk2 (fun b h => .inl h)
  have hs2' : ∀ k, S2 k → S k ∨ W.heap.size ≤ k := fun k h => (hs2 k h).imp_right (fun h => by simp at h; omega)
  clear hk2 hs2 hbox hb1 hS hp ht hJ
  have hc0 : W2.cell? ⟨W.heap.size, 0, none⟩ = some (.int .i64 f) := (blk_cell hbox2 0).trans rfl
  have hc1 : W2.cell? ⟨W.heap.size, 1, none⟩ = some (.slice As kids.length cs) := (blk_cell hbox2 1).trans rfl
  obtain ⟨ks, Ak, ck, hparts, hks, hflat, hmem⟩ : ∃ (ks : List S30) (Ak : Option Addr) (ck : Nat), (∀ w : World, Calls Try.prog 74 #[.agg #[.int .i64 f, .slice As kids.length cs]] w fun e w' => e = .returned (.slice Ak ks.length ck) ∧ w' = w.alloc (.cells #[.int .i64 f, .slice As kids.length cs] 30)) ∧
      Kd.F k30 W2 (fun k => ¬ S2 k) Ak ks.length ks ∧ flatP p ⟨f, kids⟩ = (p, ⟨f, kids⟩) :: flatPs p 0 ks ∧ ∀ x ∈ ks, x ∈ kids := by
    by_cases hf : f < 0
    · exact ⟨[], none, 0, fun w => parts_neg f _ w (decide_eq_true hf), Kd.F_nil _ _ _, by simp [flatP, hf, flatPs], by simp⟩
    · exact ⟨kids, As, cs, fun w => parts_pos f _ _ _ w (decide_eq_false hf), ht2, by simp [flatP, hf], fun x h => h⟩
  have hfl := Aside0.mk hflat
  clear hflat ht2 htc
  have hpp := Aside0.mk hparts
  clear hparts
  have hpz := Aside0.mk hp2
  have hkz := Aside0.mk hks
  have hKz := Aside0.mk hK2
  have hJz := Aside0.mk hJ2
  have hNz := Aside0.mk hN
  have hMz := Aside0.mk hM
  clear hp2 hks hK2 hJ2 hN hM
  gi_wp2_with (refine ⟨trivial, ?_⟩; (try refine ⟨wide_any _, ?_⟩); gi_at_call 74; refine (callsIn_wide.2 (hpp.out _)).mono ?_; rintro e w' ⟨rfl, rfl⟩)
  have hb3 : Below W2.heap.size W2 (W2.alloc (.cells #[.int .i64 f, .slice As kids.length cs] 30)) := below_alloc (Below.refl _ _) _
  have hkl : ks.length ≤ 9223372036854775807 := Kd.F_max hkz.out
  gi_loopw [17] (fun i wr => ∃ (k : Nat) (S3 : Nat → Prop), k ≤ ks.length ∧ i = .int .i64 k ∧ Aside0 (J S3 (pre ++ (p, ⟨f, kids⟩) :: flatPs p 0 (ks.take k)) wr) ∧ Aside0 (Keeps W wr S) ∧ Aside0 (∀ k, S3 k → S k ∨ W.heap.size ≤ k) ∧ Aside0 (Kd.F (Kd.int .i64) wr (fun k => ¬ S3 k) A p.length p) ∧ Aside0 (Kd.F k30 wr (fun k => ¬ S3 k) Ak ks.length ks))
    (fun i wr => ks.length - (intOf i).toNat)
  case atStart =>
    exact ⟨0, S2, Nat.zero_le _, rfl, ⟨by simpa [flatPs] using hJs _ _ _ _ hJz.out hb3⟩, ⟨hKz.out.below hb3⟩, ⟨hs2'⟩, ⟨Kd.F_below hpz.out hb3⟩, ⟨Kd.F_below hkz.out hb3⟩⟩
  case round =>
    obtain ⟨k, S3, hk, rfl, hJ3, hK3, hs3, hp3, hk3⟩ := hrel
    clear hJz hKz hpz hkz hb3
    by_cases hlt : k < ks.length
    · obtain ⟨ad, cc, hAk, hcl, hFK, hcell, hadok⟩ := Kd.F_get hk3.out z30 (k : Int) (by omega) (by omega)
      simp only [Int.toNat_natCast] at hFK hcell
      have hx : ks.getD k z30 = ks[k] := by simp [List.getD_eq_getElem?_getD, hlt]
      rw [hx] at hFK
      obtain ⟨A1, c1, rfl, hl1, hF1⟩ := k30_openF hFK
      have hx0 : wr.cell? (ad.add (k * 2)) = some (.int .i64 ks[k].f0) := hcell 0 _ rfl
      have hx1 : wr.cell? ⟨(ad.add (k * 2)).block, (ad.add (k * 2)).off + 1, none⟩ = some (.slice A1 ks[k].f1.length c1) := by rw [← add_field _ _ 1 (by omega)]; exact hcell 1 _ rfl
      have hxe := hmem ks[k] (List.getElem_mem hlt)
      have hF1z := Aside0.mk hF1
      have hl1z := Aside0.mk hl1
      clear hFK hcell hadok hx hF1 hl1 hcl
      subst hAk
      generalize hxk : ks[k] = x at hx0 hx1 hxe hF1z hl1z
      have hxz := Aside0.mk hxk
      clear hxk
      gi_wp2
      refine wpIn_wide.2 ?_
      have hb4 : Below wr.heap.size wr (wr.alloc (.cells #[.int .i64 x.f0, .slice A1 x.f1.length c1] 30)) := below_alloc (Below.refl _ _) _
      have hB4 : (wr.alloc (.cells #[.int .i64 x.f0, .slice A1 x.f1.length c1] 30)).heap[wr.heap.size]? = some (.cells #[.int .i64 x.f0, .slice A1 x.f1.length c1] 30 (0, 0)) := heap_alloc_new _ _
      have hb5 := hb4.drew
      have hB5 := blk_drew hB4
      refine start_ (n := 9) (S := fun w' => w'.cell? ⟨wr.heap.size, 0, none⟩ = some (.int .i64 x.f0) ∧ w'.cell? ⟨wr.heap.size, 1, none⟩ = some (.slice A1 x.f1.length c1)) (ds := [7]) #[false, false, false, false, false, false, false, false, false] (by kernel_rfl) rfl rfl ⟨(blk_cell hB5 0).trans rfl, (blk_cell hB5 1).trans rfl⟩ (fun hHeld => ?_)
      generalize World.drew (wr.alloc (.cells #[.int .i64 x.f0, .slice A1 x.f1.length c1] 30)) = w5 at hb5 hB5 hHeld ⊢
      clear hb4 hB4 hx0 hx1
      refine pure_ (i := 0) (N := some 22) (v := ?_) (a' := ?_) #[true, false, false, false, false, false, false, false, false] rfl rfl (by kernel_rfl) (fun _ _ _ h => h) (Or.inl ⟨by rfl, ?_⟩) ?_ ?_
      rotate_left
      · intro w'
        go_simp
        with_reducible rfl
      rotate_left
      · simp only [Act.put, List.setIfInBounds_toArray, List.set_cons_zero, List.set_cons_succ, i64_w, i32_w]
        rfl
      refine pure_ (i := 2) (N := some 24) (v := ?_) (a' := ?_) #[true, false, true, false, false, false, false, false, false] rfl rfl (by kernel_rfl) (fun _ _ _ h => h) (Or.inl ⟨by rfl, ?_⟩) ?_ ?_
      rotate_left
      · intro w'
        go_simp
        with_reducible rfl
      rotate_left
      · simp only [Act.put, List.setIfInBounds_toArray, List.set_cons_zero, List.set_cons_succ, i64_w, i32_w]
        rfl
      refine pure_ (i := 6) (N := some 28) (v := ?_) (a' := ?_) #[true, false, true, false, false, false, true, false, false] rfl rfl (by kernel_rfl) (fun _ _ _ h => h) (Or.inl ⟨by rfl, ?_⟩) ?_ ?_
      rotate_left
      · intro w'
        go_simp
        with_reducible rfl
      rotate_left
      · simp only [Act.put, List.setIfInBounds_toArray, List.set_cons_zero, List.set_cons_succ, i64_w, i32_w]
        rfl
      refine take_ (i := 5) (N := some 27) (v := ?_) (a' := ?_) #[true, false, true, false, false, true, true, false, false] rfl rfl (by kernel_rfl) (fun _ _ _ h => h) (Or.inl ⟨by rfl, ?_⟩) hHeld ?_ ?_
      rotate_left
      · rintro w' ⟨s0, s1⟩
        go_simp
        with_reducible rfl
      rotate_left
      · simp only [Act.put, List.setIfInBounds_toArray, List.set_cons_zero, List.set_cons_succ, i64_w, i32_w]
        rfl
      have hpl : p.length < 1099511627776 := by
        have h1 := hMz.out
        rw [hfl.out] at h1
        simp at h1
        omega
      have hflk := flatPs_take p ks k hlt
      rw [hxz.out] at hflk
      have hfle := flatPs_take_le p ks (k + 1)
      have hlen : (flatP (p ++ [(k : Int)]) x).length + (flatPs p 0 (ks.take k)).length + 1 ≤ (flatP p ⟨f, kids⟩).length := by
        rw [hfl.out]
        rw [hflk] at hfle
        simp at hfle ⊢
        omega
      have hlz := Aside0.mk hlen
      have hflkz := Aside0.mk hflk
      clear hlen hflk hfle
      -- behind the cut and the new cell, whichever came first
      refine join_ (σ := Unit) 3 #[true, true, true, true, false, true, true, false, false] (fun _ => [(23, .slice A p.length p.length), (25, .slice (some ⟨w5.heap.size, 0, none⟩) 1 1)]) (fun _ w' => w' = w5.alloc (.cells #[.int .i64 (k : Int)] 3)) ?cont ?two
      case cont =>
        rintro _ w6 rfl
        refine norm_ (a' := ?_) ?_ ?_
        rotate_left
        · simp only [putAll, Act.put, List.setIfInBounds_toArray, List.set_cons_zero, List.set_cons_succ, i64_w, i32_w]
          rfl
        refine one_ (i := 4) (N := some 26) #[true, true, true, true, true, true, true, false, false] rfl rfl (by kernel_rfl) (by decide) (fun K hK => ?_)
        obtain ⟨i0, hi, hz0, hz1, hz2⟩ := info_parts info3
        have hB6 := blk_alloc hB5 (.cells #[.int .i64 (k : Int)] 3)
        have hb6 : Below wr.heap.size wr (w5.alloc (.cells #[.int .i64 (k : Int)] 3)) := hb5.alloc hb5.size _
        have hN6 : (w5.alloc (.cells #[.int .i64 (k : Int)] 3)).heap[w5.heap.size]? = some (.cells #[.int .i64 (k : Int)] 3 (0, 0)) := heap_alloc_new _ _
        have hsz6 : w5.heap.size < (w5.alloc (.cells #[.int .i64 (k : Int)] 3)).heap.size := by simp
        generalize w5.alloc (.cells #[.int .i64 (k : Int)] 3) = w6 at hB6 hb6 hN6 hsz6 ⊢
        have hC := Kd.F_now (Kd.F_below hp3.out hb6)
        refine step_append_grows rfl (.tmp 23) (.tmp 25) 25 rfl 3 i0 (.int .i64 0) 1 8 Try.underlying25 hi hz0 hz1 hz2 rfl (by decide) A p.length p.length (p.map (.int .i64)) rfl ?hnone (by simp) ?holds ⟨w5.heap.size, 0, none⟩ 1 1 [.int .i64 (k : Int)] rfl rfl ?hnews (by intro u hu; simp at hu; subst hu; rfl) (by omega) (by simp only [maxLen]; omega) (by omega) ?_
        case hnone =>
          intro hA
          have h0 : p.length = 0 := by
            rcases Nat.eq_zero_or_pos p.length with h | h
            · exact h
            · obtain ⟨ad', e', _⟩ := hC.2.2 h
              rw [hA] at e'
              cases e'
          exact ⟨h0, h0⟩
        case holds =>
          intro b hb j u hu
          have hj : j < p.length := by
            have := (List.getElem?_eq_some_iff.1 hu).1
            simpa using this
          obtain ⟨ad', e', hcj⟩ := Kd.at_int hC (j : Int) (by omega) (by omega)
          rw [hb] at e'
          cases e'
          simp only [Int.toNat_natCast, rd] at hcj
          rw [hcj]
          simp only [List.getElem?_map, List.getElem?_eq_getElem hj, Option.map_some] at hu
          simpa [List.getD_eq_getElem?_getD, List.getElem?_eq_getElem hj] using hu
        case hnews =>
          intro j u hu
          cases j with
          | zero =>
            simp at hu
            subst hu
            rw [add_plain]
            exact (blk_cell hN6 0).trans rfl
          | succ j => simp at hu
        intro v1 w7 hown hg
        have hR : (Kd.int .i64).R 3 w7 w6.heap.size (fun b => w6.heap.size ≤ b) v1 (p ++ [(k : Int)]) := Kd.R_of_own (by simpa [encs] using hown) (fun b hb => own_base hown b hb)
        obtain ⟨A2, c2, hv, hl2, _⟩ := Kd.R_reads hR
        subst hv
        have hF2 := Kd.R_F hR
        have hb7 : Below wr.heap.size wr w7 := hb6.grown hg hb6.size (by simp)
        have hB7 := blk_grown hB6 hg (by simp)
        have hsz7 := hb6.size
        have hJ7 := hJs _ _ _ _ hJ3.out hb7
        have hF2' : Kd.F (Kd.int .i64) w7 (fun b => ¬ S3 b) A2 (p ++ [(k : Int)]).length (p ++ [(k : Int)]) := Kd.F_mono hF2 (fun b hb h => by have := hJb _ _ _ hJ3.out b h; omega)
        have hFx := Kd.F_below hF1z.out hb7
        have hFp7 := Kd.F_below hp3.out hb7
        have hFk7 := Kd.F_below hk3.out hb7
        have hK7 := hK3.out.below hb7
        clear hR hF2 hown hC hB6 hb6 hN6 hg hHeld hB5 hb5
        refine hK.out _ _ ⟨(blk_cell hB7 0).trans rfl, (blk_cell hB7 1).trans rfl⟩ (fun hHeld => ?_)
        clear hK K
        refine norm_ (a' := ?_) ?_ ?_
        rotate_left
        · show Act.put _ (some 26) _ = _
          simp only [Act.put, List.setIfInBounds_toArray, List.set_cons_zero, List.set_cons_succ, i64_w, i32_w]
          rfl
        refine last_ (i := 7) (N := some 29) #[true, true, true, true, true, true, true, true, false] rfl rfl (by kernel_rfl) (by decide) (fun K hK => ?_)
        refine goes_ Try.func104 (by kernel_rfl) rfl #[.slice A2 (p ++ [(k : Int)]).length c2, .agg #[.int .i64 x.f0, .slice A1 x.f1.length c1], .func (.yield l) #[] #[]] (by rfl) rfl rfl (by (try simp only [List.map_toArray, List.map_cons, List.map_nil]); first | done | rfl) ?_
        refine (callsIn_wide.1 (ih x hxe 0 S3 (p ++ [(k : Int)]) A2 c2 A1 c1 _ w7 hJ7 hF2' hl2 hFx hl1z.out ?_ ?_)).mono ?_
        · have h1 := hlz.out
          have h2 := hNz.out
          simp only [List.length_append, List.length_cons]
          omega
        · have h1 := hlz.out
          have h2 := hMz.out
          simp only [List.length_append, List.length_cons, List.length_nil]
          omega
        rintro e w8 ⟨rfl, S4, hJ4, hK4, hs4⟩
        refine ⟨_, rfl, ?_⟩
        refine hK.out _ _ ?_
        clear hK K
        refine norm_ (a' := ?_) ?_ ?_
        rotate_left
        · show Act.put _ (some 29) _ = _
          simp only [Act.put, List.setIfInBounds_toArray, List.set_cons_zero, List.set_cons_succ, i64_w, i32_w]
          rfl
        refine pure_ (i := 8) (N := some 30) (v := ?_) (a' := ?_) #[true, true, true, true, true, true, true, true, true] rfl rfl (by kernel_rfl) (fun _ _ _ h => h) (Or.inl ⟨by rfl, ?_⟩) ?_ ?_
        rotate_left
        · intro w'
          go_simp
          with_reducible rfl
        rotate_left
        · simp only [Act.put, List.setIfInBounds_toArray, List.set_cons_zero, List.set_cons_succ, i64_w, i32_w]
          rfl
        refine done_ (by kernel_rfl) ?_
        have hFp8 := Aside0.mk (hK4.F hs4 hFp7)
        have hFk8 := Aside0.mk (hK4.F hs4 hFk7)
        have hK8 := Aside0.mk (hK7.trans hK4 hs3.out)
        have hs8 : Aside0 (∀ b, S4 b → S b ∨ W.heap.size ≤ b) := ⟨fun b hb => (hs4 b hb).elim (hs3.out b) (fun h => .inr (by have h1 := hK7.size; omega))⟩
        have hJ8 : Aside0 (J S4 (pre ++ (p, ⟨f, kids⟩) :: flatPs p 0 (ks.take (k + 1))) w8) := ⟨by rw [hflkz.out]; simpa [List.append_assoc] using hJ4⟩
        clear hK4 hs4 hFp7 hFk7 hK7 hs3 hJ4 hJ7 hFx hF2' hB7 hb7 hHeld
        gi_wp2
        go_roundw
        case rel => exact ⟨k + 1, S4, by omega, by go_num, hJ8, hK8, hs8, hFp8, hFk8⟩
        case measure => simp [intOf]; omega
      intro hcont
      refine two_ (i := 1) (j := 3) (Ni := some 23) (Nj := some 25) #[true, true, true, false, false, true, true, false, false] #[true, false, true, true, false, true, true, false, false] rfl rfl rfl rfl (by kernel_rfl) (by decide) (by decide) (fun K hK => ?_) (fun K hK => ?_)
      · refine goes_ Try.func109 (by kernel_rfl) rfl #[.slice A p.length c] (by rfl) rfl rfl (by (try simp only [List.map_toArray, List.map_cons, List.map_nil]); first | done | rfl) ?_
        refine (clip_any A p.length c _ hpc (by omega)).mono ?_
        rintro e w6 ⟨rfl, rfl⟩
        refine ⟨_, rfl, ?_⟩
        refine hK.out _ _ hHeld (fun hHeld => ?_)
        clear hK K
        refine norm_ (a' := ?_) ?_ ?_
        rotate_left
        · show Act.put _ (some 23) _ = _
          simp only [Act.put, List.setIfInBounds_toArray, List.set_cons_zero, List.set_cons_succ, i64_w, i32_w]
          rfl
        refine one_ (i := 3) (N := some 25) #[true, true, true, true, false, true, true, false, false] rfl rfl (by kernel_rfl) (by decide) (fun K hK => ?_)
        refine value_ (w1 := ?_) (v := ?_) (by rfl) rfl ?_ ?_
        rotate_left 2
        · go_simp
          constructor
          · rfl
          · rfl
        refine hK.out _ _ ⟨(blk_cell (blk_alloc hB5 _) 0).trans rfl, (blk_cell (blk_alloc hB5 _) 1).trans rfl⟩ (fun hHeld => ?_)
        clear hK K
        refine norm_ (a' := ?_) ?_ ?_
        rotate_left
        · show Act.put _ (some 25) _ = _
          simp only [Act.put, List.setIfInBounds_toArray, List.set_cons_zero, List.set_cons_succ, i64_w, i32_w]
          rfl
        have h := hcont () _ rfl
        simp only [putAll, Act.put, List.setIfInBounds_toArray, List.set_cons_zero, List.set_cons_succ, i64_w, i32_w] at h
        exact h
      · refine value_ (w1 := ?_) (v := ?_) (by rfl) rfl ?_ ?_
        rotate_left 2
        · go_simp
          constructor
          · rfl
          · rfl
        refine hK.out _ _ ⟨(blk_cell (blk_alloc hB5 _) 0).trans rfl, (blk_cell (blk_alloc hB5 _) 1).trans rfl⟩ (fun hHeld => ?_)
        clear hK K
        refine norm_ (a' := ?_) ?_ ?_
        rotate_left
        · show Act.put _ (some 25) _ = _
          simp only [Act.put, List.setIfInBounds_toArray, List.set_cons_zero, List.set_cons_succ, i64_w, i32_w]
          rfl
        refine one_ (i := 1) (N := some 23) #[true, true, true, true, false, true, true, false, false] rfl rfl (by kernel_rfl) (by decide) (fun K hK => ?_)
        refine goes_ Try.func109 (by kernel_rfl) rfl #[.slice A p.length c] (by rfl) rfl rfl (by (try simp only [List.map_toArray, List.map_cons, List.map_nil]); first | done | rfl) ?_
        refine (clip_any A p.length c _ hpc (by omega)).mono ?_
        rintro e w6 ⟨rfl, rfl⟩
        refine ⟨_, rfl, ?_⟩
        refine hK.out _ _ hHeld (fun hHeld => ?_)
        clear hK K
        refine norm_ (a' := ?_) ?_ ?_
        rotate_left
        · show Act.put _ (some 23) _ = _
          simp only [Act.put, List.setIfInBounds_toArray, List.set_cons_zero, List.set_cons_succ, i64_w, i32_w]
          rfl
        have h := hcont () _ rfl
        simp only [putAll, Act.put, List.setIfInBounds_toArray, List.set_cons_zero, List.set_cons_succ, i64_w, i32_w] at h
        exact h
    · gi_wp2
      go_ret
      exact ⟨rfl, S3, by rw [hfl.out]; have h := hJ3.out; rwa [List.take_of_length_le (by omega)] at h, hK3.out, hs3.out⟩
end Go.Proofs.Ytpfddihcikiofaa.P
end

section
/- 'for .. := range all(t) { .. }': the statement, for a body that goes on at every place. -/
namespace Go.Proofs.Ytpfddihcikiofaa.P
open Go.RowKit Go.Shelf Go.Proofs.YtpfddihcikiofaaW.PrintWords Go.Proofs.YtpfddihcikiofaaW.PrintLast Go.Proofs.YtpfddihcikiofaaW.PrintMore
set_option linter.unusedVariables false
set_option linter.unusedSimpArgs false
attribute [local go_sem] Oper.semAt_some

set_option maxRecDepth 100000 in
set_option maxHeartbeats 1000000 in
/-- 'func(yield ..) { walk(nil, t, yield) }': t is read out of its box. -/
theorem all1_in (l N B : Nat) (J : (Nat → Prop) → List (List Int × S30) → World → Prop) (hJb : ∀ S pre W, J S pre W → ∀ k, S k → k < W.heap.size)
    (hJs : ∀ S pre W W', J S pre W → Below W.heap.size W W' → J S pre W') (hY : Yields l J N) (t : S30) (n : Nat) (S : Nat → Prop) (As : Option Addr) (cs : Nat) (W : World) (hJ : J S [] W)
    (hB : W.heap[B]? = some (.cells #[.int .i64 t.f0, .slice As t.f1.length cs] 30 (0, 0))) (ht : Kd.F k30 W (fun k => ¬ S k) As t.f1.length t.f1) (hc : t.f1.length ≤ cs)
    (hN : (flatP [] t).length ≤ N) (hM : N ≤ 1099511627776) :
    CallsIn Fence.wide n Try.prog 103 #[.func (.yield l) #[] #[], .pointer (some ⟨B, 0, none⟩)] W fun e W' => (∃ v, e = .returned v) ∧ ∃ S' : Nat → Prop, J S' (flatP [] t) W' ∧ Keeps W W' S ∧ ∀ k, S' k → S k ∨ W.heap.size ≤ k := by
  have hw := callsIn_wide.1 (walkIn_ l N J hJb hJs hY t 0 S [] none 0 As cs [] W hJ (Kd.F_nil _ _ _) (Nat.le_refl _) ht hc (by simpa using hN) (by simp; omega))
  have hc0 : W.cell? ⟨B, 0, none⟩ = some (.int .i64 t.f0) := (blk_cell hB 0).trans rfl
  have hc1 : W.cell? ⟨B, 1, none⟩ = some (.slice As t.f1.length cs) := (blk_cell hB 1).trans rfl
  refine callsIn_wide.2 ?_
  go_enter Try.func103, Try.ntmps103
  go_wp2_with (go_at_call 104; refine hw.mono ?_; rintro e W' ⟨rfl, S', h1, h2, h3⟩)
  go_end0
  exact ⟨⟨_, rfl⟩, S', by simpa using h1, h2, h3⟩

/-- 'all(t)': the argument is boxed; the function value captures the box. -/
theorem all_any (f : Int) (v : Value) (w : World) : Calls Try.prog 72 #[.agg #[.int .i64 f, v]] w fun e w' => e = .returned (.func (.func 103) #[] #[.pointer (some ⟨w.heap.size, 0, none⟩)]) ∧ w' = w.alloc (.cells #[.int .i64 f, v] 30) := by
  go_enter Try.func72, Try.ntmps72
  go_wp2
  go_ret
  exact ⟨rfl, rfl⟩

theorem Keeps.setCell (W : World) (a : Addr) (v : Value) : Keeps W (W.setCell a v) (fun k => k = a.block) := ⟨rfl, rfl, rfl, by simp [World.setCell], fun k _ hn => Below.heap_setCell _ _ _ _ hn⟩
theorem below_put {B : Nat} {w W : World} (h : Below B w W) (hB : B ≤ W.heap.size) {D : Nat} (hD : B ≤ D) (o : Obj) : Below B w (W.putObj D o) := h.grown (grownBy_putObj' W D o) hB (fun k e => by cases e; exact hD)
/-- How a round's body ends. -/
def bodyEnd (I : (Nat → Prop) → List (List Int × S30) → World → Prop) (S : Nat → Prop) (n0 : Nat) (pre : List (List Int × S30)) (W : World) : Exit → Act → World → Prop
  | .normal, _, W' => ∃ S' : Nat → Prop, I S' pre W' ∧ Keeps W W' S ∧ ∀ k, S' k → S k ∨ n0 ≤ k
  | .ret, _, _ => False
  | .exit _, _, _ => False
  | .goto _, _, _ => False
  | .panic _, _, _ => False
  | .outgrown, _, _ => False

set_option maxRecDepth 100000 in
set_option maxHeartbeats 1000000 in
theorem range_all {g : Operand} {i j : Tmp} {assign body : Code} {Q : Exit → Act → World → Prop} {a : Act} {w : World} {n B : Nat}
    (hg : a.eval g = .func (.func 103) #[] #[.pointer (some ⟨B, 0, none⟩)])
    (t : S30) (S : Nat → Prop) (As : Option Addr) (cs : Nat) (hB : w.heap[B]? = some (.cells #[.int .i64 t.f0, .slice As t.f1.length cs] 30 (0, 0))) (ht : Kd.F k30 w (fun k => ¬ S k) As t.f1.length t.f1) (hc : t.f1.length ≤ cs)
    (hM : (flatP [] t).length ≤ 1099511627776)
    (I : (Nat → Prop) → List (List Int × S30) → World → Prop)
    (hIc : ∀ S pre W, I S pre W → ∀ k, S k → ∃ o : Obj, W.heap[k]? = some o ∧ o.isCells = true)
    (hIs : ∀ S pre (W W' : World), I S pre W → W.heap.size ≤ W'.heap.size → (∀ k, S k → k < W.heap.size → W'.heap[k]? = W.heap[k]?) → I S pre W')
    (h0 : I S [] w)
    (Ax : (Nat → Prop) → Nat → List Int → S30 → Option Addr → Nat → Option Addr → Nat → Act → World → Prop)
    (hAx : ∀ S n0 p s A c As cs a₁ (W W' : World), Ax S n0 p s A c As cs a₁ W → W.heap.size ≤ W'.heap.size → (∀ k, n0 ≤ k → k < W.heap.size → W'.heap[k]? = W.heap[k]?) → Ax S n0 p s A c As cs a₁ W')
    (hassign : ∀ (l m : Nat) (S : Nat → Prop) (p : List Int) (s : S30) (A : Option Addr) (c : Nat) (As : Option Addr) (cs : Nat) (W : World) (K : Act → World → Prop),
      (∀ a₁ W₁, Below W.heap.size W W₁ → Ax S W.heap.size p s A c As cs a₁ W₁ → K a₁ W₁) →
      assign.wpIn (Fence.wide.inRound l) m Try.prog (Exit.then K (fun _ _ _ => False)) { tmps := (a.tmps.setIfInBounds i (.slice A p.length c)).setIfInBounds j (.agg #[.int .i64 s.f0, .slice As s.f1.length cs]), defers := [] } W)
    (hbody : ∀ (l m : Nat) (S : Nat → Prop) (n0 : Nat) (pre : List (List Int × S30)) (p : List Int) (s : S30) (A : Option Addr) (c : Nat) (As : Option Addr) (cs : Nat) (a₁ : Act) (W : World), I S pre W → (∀ k, S k → k < n0) → n0 ≤ W.heap.size → pre.length < (flatP [] t).length → p.length ≤ 1099511627776 →
      Kd.F (Kd.int .i64) W (fun k => ¬ S k) A p.length p → p.length ≤ c → Kd.F k30 W (fun k => ¬ S k) As s.f1.length s.f1 → s.f1.length ≤ cs → Ax S n0 p s A c As cs a₁ W →
      body.wpIn (Fence.wide.inRound l) m Try.prog (bodyEnd I S n0 (pre ++ [(p, s)]) W) a₁ W)
    (hdone : ∀ (D : Nat) (S' : Nat → Prop) (W' : World), I S' (flatP [] t) W' → Keeps w W' S → (∀ k, S' k → S k ∨ w.heap.size ≤ k) → W'.heap[D]? = some (.deferred (some [])) → w.heap.size ≤ D → Q .normal { a with defers := { target := .collected D, args := #[] } :: a.defers } W') :
    (Code.rangeFunc g #[i, j] assign body).wpIn Fence.wide n Try.prog Q a w := by
  refine wpIn_rangeFunc ?_
  intro fn hfn
  rw [show Fence.wide.round = none from rfl]
  obtain ⟨rec, hrec⟩ : ∃ rec : LoopState → Option Code → Loop, rec = fun st pe => { state := st, pending := pe, fn, tmps := a.tmps, params := #[i, j], assign, body, defers := w.heap.size } := ⟨_, rfl⟩
  obtain ⟨W1, hW1⟩ : ∃ W1, (w.alloc (.deferred (some []))).alloc (.loop (rec .ready none)) = W1 := ⟨_, rfl⟩
  have hL1 : W1.heap[w.heap.size + 1]? = some (.loop (rec .ready none)) := by
    rw [← hW1]; have := World.alloc_heap_new (w.alloc (.deferred (some []))) (.loop (rec .ready none)); rwa [World.size_alloc] at this
  have hK1 : W1.heap[w.heap.size]? = some (.deferred (some [])) := by
    rw [← hW1]; exact (Below.heap_alloc _ _ _ (by simp)).trans (World.alloc_heap_new w _)
  have hb1 : Below w.heap.size w W1 := by
    rw [← hW1]; exact ((Below.refl _ w).alloc (Nat.le_refl _) _).alloc (by simp) _
  have hI1 : I S [] W1 := hIs _ _ _ _ h0 hb1.size (fun k _ hk => hb1.block k hk)
  refine ⟨w.heap.size + 1, [{ target := .collected w.heap.size, args := #[] }], W1, { target := .fn (.func 103) #[.pointer (some ⟨B, 0, none⟩)], args := #[.func (.yield (w.heap.size + 1)) #[] #[]] }, W1, 103,
    #[.func (.yield (w.heap.size + 1)) #[] #[]] ++ #[.pointer (some ⟨B, 0, none⟩)], W1, ?_, ?_, fun _ _ => trivial, ?_, fun h => (by cases h), ?_⟩
  · rw [← hW1, hrec]; exact run_enterLoop_outer _ _ _ _ _
  · simp only [resolve, hg]
    simp [go_sem]
  · have eg := enters_ (P := Try.prog) Try.func103 (by kernel_rfl) rfl
    simp [invoke, go_sem, eg]
  · have hcellne : ∀ {S pre W k}, I S pre W → S k → ∀ {o : Obj}, W.heap[k]? = some o → o.isCells = true := fun {S pre W k} hI hk {o} ho => by
      obtain ⟨o', ho', hc'⟩ := hIc _ _ _ hI k hk
      rw [ho] at ho'; cases ho'; exact hc'
    have hlt : ∀ {S pre W k}, I S pre W → S k → k < W.heap.size := fun {S pre W k} hI hk => by
      obtain ⟨o', ho', _⟩ := hIc _ _ _ hI k hk
      exact blk_lt ho'
    refine (all1_in (w.heap.size + 1) (flatP [] t).length B
      (fun SJ pre W => ∃ S : Nat → Prop, SJ = (fun k => S k ∨ k = w.heap.size + 1 ∨ k = w.heap.size) ∧ I S pre W ∧ W.heap[w.heap.size + 1]? = some (.loop (rec .ready none)) ∧ W.heap[w.heap.size]? = some (.deferred (some [])))
      ?_
      (fun SJ pre W W' ⟨S, e, h1, h2, h3⟩ hb => ⟨S, e, hIs _ _ _ _ h1 hb.size (fun k _ hk => hb.block k hk), blk_below h2 hb, blk_below h3 hb⟩)
      ?_ t _ (fun k => S k ∨ k = w.heap.size + 1 ∨ k = w.heap.size) As cs W1 ⟨S, rfl, hI1, hL1, hK1⟩ (blk_below hB hb1) ?_ hc (Nat.le_refl _) hM).mono ?_
    · rintro SJ pre W ⟨S, rfl, h1, h2, h3⟩ k (hk | rfl | rfl)
      · exact hlt h1 hk
      · exact blk_lt h2
      · exact blk_lt h3
    · -- ONE ROUND
      rintro m SJ pre p s A c As2 cs2 W ⟨S2, rfl, hi, hl, hk⟩ hlen hpm hp hpc hs hsc
      have hy := run_yield (P := Try.prog) (args := #[.slice A p.length c, .agg #[.int .i64 s.f0, .slice As2 s.f1.length cs2]]) hl (by rw [hrec]; rfl)
      rw [hrec] at hy
      have hz : ∀ (u v : Value), (#[i, j].zip #[u, v]).foldl (fun (t : Array Value) (x : Tmp × Value) => t.setIfInBounds x.1 x.2) a.tmps = (a.tmps.setIfInBounds i u).setIfInBounds j v := fun u v => by simp
      rw [show ∀ (u v : Value), (#[i, j].zip #[u, v]).foldl (fun (t : Array Value) (x : Tmp × Value) => t.setIfInBounds x.1 x.2) a.tmps = (a.tmps.setIfInBounds i u).setIfInBounds j v from hz] at hy
      refine ⟨fn, _, assign, body, hy, roundIn_of_wpIn trivial (hassign _ m S2 p s A c As2 cs2 W _ (fun a₁ W₁ hb hax => ⟨_, run_beginRound (blk_below hl hb) (by rw [hrec]), ?_⟩))⟩
      have hll := blk_lt hl
      have hkl := blk_lt hk
      have hl2 : (W₁.putObj (w.heap.size + 1) (.loop { rec .ready none with state := .busy })).heap[w.heap.size + 1]? = some (.loop { rec .ready none with state := .busy }) := World.putObj_heap_same (Nat.lt_of_lt_of_le hll hb.size)
      have hk2 : (W₁.putObj (w.heap.size + 1) (.loop { rec .ready none with state := .busy })).heap[w.heap.size]? = some (.deferred (some [])) := (World.putObj_heap_other (by omega)).trans (blk_below hk hb)
      have hSl : ¬ S2 (w.heap.size + 1) := fun h => by have := hcellne hi h hl; cases this
      have hSk : ¬ S2 w.heap.size := fun h => by have := hcellne hi h hk; cases this
      have hkp : Keeps W (W₁.putObj (w.heap.size + 1) (.loop { rec .ready none with state := .busy })) (fun k => k = w.heap.size + 1) :=
        ⟨hb.os, hb.tape, hb.output, by simpa using hb.size, fun k hk hn => (World.putObj_heap_other (by omega)).trans (hb.block k hk)⟩
      have hax2 := hAx _ _ _ _ _ _ _ _ _ _ (W₁.putObj (w.heap.size + 1) (.loop { rec .ready none with state := .busy })) hax (by simp) (fun k hk _ => World.putObj_heap_other (by omega))
      generalize W₁.putObj (w.heap.size + 1) (.loop { rec .ready none with state := .busy }) = W2 at hl2 hk2 hkp hax2 ⊢
      have hi2 : I S2 pre W2 := hIs _ _ _ _ hi hkp.size (fun k hk hlt => hkp.block k hlt (fun e => hSl (e ▸ hk)))
      have hp2 := Kd.F_mono (Kd.F_step hp (fun k hk hlt => hkp.block k hlt (fun e => hk (.inr (.inl e))))) (ok' := fun k => ¬ S2 k) (fun k hk h => hk (.inl h))
      have hs2 := Kd.F_mono (Kd.F_step hs (fun k hk hlt => hkp.block k hlt (fun e => hk (.inr (.inl e))))) (ok' := fun k => ¬ S2 k) (fun k hk h => hk (.inl h))
      refine wpIn_mono (hbody _ m S2 W.heap.size pre p s A c As2 cs2 a₁ W2 hi2 (fun k hk => hlt hi hk) hkp.size hlen hpm hp2 hpc hs2 hsc hax2) ?_
      rintro e a3 W3 hpost
      cases e with
      | normal =>
        obtain ⟨S3, hi3, hk3, hsub3⟩ := hpost
        have hl3 := hk3.blk hl2 hSl
        have hk3' := hk3.blk hk2 hSk
        have hSl3 : ¬ S3 (w.heap.size + 1) := fun h => by have := hcellne hi3 h hl3; cases this
        have hend := run_endRound (P := Try.prog) none hl3
        rw [hrec] at hend
        refine ⟨_, _, hend, rfl, fun k => S3 k ∨ k = w.heap.size + 1 ∨ k = w.heap.size, ⟨S3, rfl, ?_, ?_, ?_⟩, ?_, ?_⟩
        · exact hIs _ _ _ _ hi3 (by simp) (fun k hk _ => World.putObj_heap_other (fun e => hSl3 (e ▸ hk)))
        · rw [hrec]
          exact World.putObj_heap_same (blk_lt hl3)
        · exact (World.putObj_heap_other (by omega)).trans hk3'
        · refine ⟨hk3.os.trans hkp.os, hk3.tape.trans hkp.tape, hk3.output.trans hkp.output, ?_, ?_⟩
          · have h1 := hkp.size
            have h2 := hk3.size
            simp
            omega
          · intro k hk hn
            refine (World.putObj_heap_other (fun e => hn (.inr (.inl e)))).trans ((hk3.block k (Nat.lt_of_lt_of_le hk hkp.size) (fun h => hn (.inl h))).trans (hkp.block k hk (fun e => hn (.inr (.inl e)))))
        · rintro k (hk | rfl | rfl)
          · exact (hsub3 k hk).imp_left .inl
          · exact .inl (.inr (.inl rfl))
          · exact .inl (.inr (.inr rfl))
      | ret => exact hpost.elim
      | exit id => exact hpost.elim
      | goto t => exact hpost.elim
      | panic ch => exact hpost.elim
      | outgrown => exact hpost.elim
    · refine Kd.F_mono (Kd.F_bound (Kd.F_below (Kd.F_mono (Kd.F_bound ht) (fun k hk => hk)) hb1)) ?_
      rintro k ⟨⟨hk, hlt'⟩, _⟩ (h | rfl | rfl)
      · exact hk h
      · omega
      · omega
    · rintro e W2 ⟨⟨v, rfl⟩, SJ, ⟨S', rfl, hi, hl, hk⟩, hkp, hsub⟩
      have hSl : ¬ S' (w.heap.size + 1) := fun h => by have := hcellne hi h hl; cases this
      have hSk : ¬ S' w.heap.size := fun h => by have := hcellne hi h hk; cases this
      refine ⟨none, _, by have := run_endLoop (P := Try.prog) hl (by rw [hrec]; simp); rw [hrec] at this; exact this, ?_⟩
      refine hdone _ S' _ (hIs _ _ _ _ hi (by simp) (fun k hk _ => World.putObj_heap_other (fun e => hSl (e ▸ hk)))) ?_ (fun k hk => ?_) ((World.putObj_heap_other (by omega)).trans hk) (Nat.le_refl _)
      · have h1 := (Keeps.of_below hb1 S).trans hkp (fun b h => ?_)
        · exact ⟨h1.os, h1.tape, h1.output, by simpa using h1.size, fun k hk hn => (World.putObj_heap_other (by omega)).trans (h1.block k hk hn)⟩
        · rcases h with h | rfl | rfl
          · exact .inl h
          · exact .inr (by omega)
          · exact .inr (Nat.le_refl _)
      · rcases hsub k (.inl hk) with (h | rfl | rfl) | h
        · exact .inl h
        · exact .inr (by omega)
        · exact .inr (Nat.le_refl _)
        · exact .inr (Nat.le_trans hb1.size h)
end Go.Proofs.Ytpfddihcikiofaa.P
end

section
-- Laid by a program of this session (wip/tools) over the kit's printer: the functions' own text. Lean checks it.
namespace Go.Proofs.Ytpfddihcikiofaa.P
open Go.RowKit Go.Proofs.YtpfddihcikiofaaW.PrintWords Go.Proofs.YtpfddihcikiofaaW.PrintLast Go.Proofs.YtpfddihcikiofaaW.PrintMore
attribute [local go_sem] max2_int min2_int max_two min_two max_three min_three max_four min_four   -- for this text's walks alone
set_option linter.unusedVariables false
set_option linter.unusedSimpArgs false

/-! ### slices_Index_int_int: function 105 -/
def slices_Index_int_int.l0 : Nat → List Int → Int → Int → Int → Option (Int)
  | 0, _, _, _, _ => none
  | k + 1, x0, x1, x7, x8 => if x8 < x7 then (if 0 ≤ x8 then (if x8 < (x0.length : Int) then (if x1 = (rd x0 x8) then (some x8) else (slices_Index_int_int.l0 k x0 x1 x7 (wrap64 (x8 + 1)))) else (none)) else (none)) else (some (-1))
def slices_Index_int_int.f (k : Nat) (l0 : List Int) (a1 : Int) : Option (Int) := slices_Index_int_int.l0 k l0 a1 (l0.length : Int) 0
theorem slices_Index_int_int.mono_l : ∀ k, (∀ y0 y1 y2 y3, LeO (slices_Index_int_int.l0 k y0 y1 y2 y3) (slices_Index_int_int.l0 (k + 1) y0 y1 y2 y3))
  | 0 => fun _ _ _ _ r h => by simp [slices_Index_int_int.l0] at h
  | k + 1 => by
    have ih0 := slices_Index_int_int.mono_l k
    · intro y0 y1 y2 y3
      unfold slices_Index_int_int.l0
      repeat' first
      | (with_reducible exact ih0 _ _ _ _)
      | (with_reducible exact LeO.refl _)
      | (with_reducible exact LeO.none _)
      | (with_reducible refine LeO.ite ?_ ?_)
      | (with_reducible refine LeO.bind ?_ (fun _ => ?_))
      | exact ih0 _ _ _ _
      | exact LeO.none _
      | refine LeO.ite ?_ ?_
      | refine LeO.bind ?_ (fun _ => ?_)
theorem slices_Index_int_int.mono : ∀ a0 a1 k, LeO (slices_Index_int_int.f k a0 a1) (slices_Index_int_int.f (k + 1) a0 a1) := by
  intro a0 a1 k
  have ih0 := slices_Index_int_int.mono_l k
  unfold slices_Index_int_int.f
  repeat' first
      | (with_reducible exact ih0 _ _ _ _)
      | (with_reducible exact LeO.refl _)
      | (with_reducible exact LeO.none _)
      | (with_reducible refine LeO.ite ?_ ?_)
      | (with_reducible refine LeO.bind ?_ (fun _ => ?_))
      | exact ih0 _ _ _ _
      | exact LeO.none _
      | refine LeO.ite ?_ ?_
      | refine LeO.bind ?_ (fun _ => ?_)
set_option maxHeartbeats 8000000 in
set_option maxRecDepth 100000 in
theorem slices_Index_int_int.calls (k : Nat) (A0 : Option Addr) (c0 : Nat) (l0 : List Int) (a1 : Int) (r : Int) (w : World) (hr0 : Kd.C (Kd.int .i64) w A0 l0.length l0) (hc0 : l0.length ≤ c0) (h : slices_Index_int_int.f k l0 a1 = some r) :
    Calls Try.prog 105 #[.slice A0 l0.length c0, .int .i64 a1] w fun e w' => e = .returned (.int .i64 r) ∧ Drawn0 w w' := by
  have HR0 := Aside0.mk hr0
  have HC0 := Aside0.mk hc0
  clear hr0 hc0
  have H : (slices_Index_int_int.l0 k l0 a1 (l0.length : Int) 0) = some r := h
  clear h
  have H' := Aside0.mk H
  clear H
  go_enter Try.func105, Try.ntmps105
  go_wp2
  go_loopg [8] k (fun kq v8 w' => ∃ (x8_1 : Int), v8 = .int .i64 x8_1 ∧ Aside0 (slices_Index_int_int.l0 kq l0 a1 (l0.length : Int) x8_1 = some r) ∧ Aside0 (kq ≤ k) ∧ Drawn0 w w')
  case atStart => exact ⟨(0), (by first | rfl | (simp; done) | (simp [*]; done)), H', ⟨Nat.le_refl _⟩, by repeat (first | exact Drawn0.refl _ | apply Drawn0.step)⟩
  case round =>
    clear H'
    try clear c1
    try clear p2
    obtain ⟨x8_1, rfl, HA, HK1, ⟨m1, rfl⟩⟩ := hrel
    cases gk with
    | zero => exact absurd HA.out (by simp [slices_Index_int_int.l0])
    | succ k1 =>
      have H := HA.out
      clear HA
      simp only [slices_Index_int_int.l0] at H
      by_cases c3 : x8_1 < (l0.length : Int)
      · rw [if_pos c3] at H
        have c3b0 : decide (x8_1 < (l0.length : Int)) = true := decide_eq_true c3
        clear c3
        by_cases c4 : 0 ≤ x8_1
        · rw [if_pos c4] at H
          have c4b0 : decide (0 ≤ x8_1) = true := decide_eq_true c4
          clear c4
          by_cases c5 : x8_1 < (l0.length : Int)
          · rw [if_pos c5] at H
            have c5b0 : decide (x8_1 < (l0.length : Int)) = true := decide_eq_true c5
            clear c5
            by_cases c6 : a1 = (rd l0 x8_1)
            · rw [if_pos c6] at H
              have c6b0 : (a1 == (rd l0 x8_1)) = true := beq_iff_eq.mpr c6
              have c6b1 : (a1 != (rd l0 x8_1)) = false := bne_eq_false_iff_eq.mpr c6
              clear c6
              obtain rfl := Option.some.inj H
              have p251 : 0 ≤ (x8_1 : Int) := of_decide_eq_true (by first | (with_reducible assumption) | assumption)
              have q251 : x8_1 < (l0.length : Int) := of_decide_eq_true (by first | (with_reducible assumption) | assumption)
              obtain ⟨ad251, e251, hx251_0⟩ := Kd.at_int HR0.out x8_1 p251 q251
              cases e251
              replace p251 := eq_true p251
              replace q251 := eq_true q251
              go_wp2
              go_ret
              exact ⟨by first | rfl | (simp; done) | (simp [*]; done), by repeat (first | exact Drawn0.refl _ | apply Drawn0.step)⟩
            · rw [if_neg c6] at H
              have c6b0 : (a1 == (rd l0 x8_1)) = false := beq_eq_false_iff_ne.mpr c6
              have c6b1 : (a1 != (rd l0 x8_1)) = true := bne_iff_ne.mpr c6
              have H' := Aside0.mk H
              clear H
              have p251 : 0 ≤ (x8_1 : Int) := of_decide_eq_true (by first | (with_reducible assumption) | assumption)
              have q251 : x8_1 < (l0.length : Int) := of_decide_eq_true (by first | (with_reducible assumption) | assumption)
              obtain ⟨ad251, e251, hx251_0⟩ := Kd.at_int HR0.out x8_1 p251 q251
              cases e251
              replace p251 := eq_true p251
              replace q251 := eq_true q251
              go_wp2
              go_roundg k1
              case measure => have := HK1.out; omega
              case rel => exact ⟨(wrap64 (x8_1 + 1)), (by first | rfl | (simp; done) | (simp [*]; done)), H', ⟨by have := HK1.out; omega⟩, by repeat (first | exact Drawn0.refl _ | apply Drawn0.step)⟩
          · rw [if_neg c5] at H
            exact absurd H (by simp)
        · rw [if_neg c4] at H
          exact absurd H (by simp)
      · rw [if_neg c3] at H
        have c3b0 : decide (x8_1 < (l0.length : Int)) = false := decide_eq_false c3
        clear c3
        obtain rfl := Option.some.inj H
        go_wp2
        go_ret
        exact ⟨by first | rfl | (simp; done) | (simp [*]; done), by repeat (first | exact Drawn0.refl _ | apply Drawn0.step)⟩

end Go.Proofs.Ytpfddihcikiofaa.P
end

section
-- Laid by a program of this session (wip/tools) over the kit's printer: the functions' own text. Lean checks it.
namespace Go.Proofs.Ytpfddihcikiofaa.P
open Go.RowKit Go.Proofs.YtpfddihcikiofaaW.PrintWords Go.Proofs.YtpfddihcikiofaaW.PrintLast Go.Proofs.YtpfddihcikiofaaW.PrintMore
attribute [local go_sem] max2_int min2_int max_two min_two max_three min_three max_four min_four   -- for this text's walks alone
set_option linter.unusedVariables false
set_option linter.unusedSimpArgs false

/-! ### slices_Contains_int_int: function 75 -/
def slices_Contains_int_int.f (k : Nat) (l0 : List Int) (a1 : Int) : Option (Bool) := (slices_Index_int_int.f k l0 a1).bind fun t252 => (some (decide (t252 ≥ 0)))
theorem slices_Contains_int_int.mono : ∀ a0 a1 k, LeO (slices_Contains_int_int.f k a0 a1) (slices_Contains_int_int.f (k + 1) a0 a1) := by
  intro a0 a1 k
  unfold slices_Contains_int_int.f
  repeat' first
      | (with_reducible exact slices_Index_int_int.mono _ _ _)
      | (with_reducible exact LeO.refl _)
      | (with_reducible exact LeO.none _)
      | (with_reducible refine LeO.ite ?_ ?_)
      | (with_reducible refine LeO.bind ?_ (fun _ => ?_))
      | exact slices_Index_int_int.mono _ _ _
      | exact LeO.none _
      | refine LeO.ite ?_ ?_
      | refine LeO.bind ?_ (fun _ => ?_)
set_option maxHeartbeats 8000000 in
set_option maxRecDepth 100000 in
theorem slices_Contains_int_int.calls (k : Nat) (A0 : Option Addr) (c0 : Nat) (l0 : List Int) (a1 : Int) (r : Bool) (w : World) (hr0 : Kd.C (Kd.int .i64) w A0 l0.length l0) (hc0 : l0.length ≤ c0) (h : slices_Contains_int_int.f k l0 a1 = some r) :
    Calls Try.prog 75 #[.slice A0 l0.length c0, .int .i64 a1] w fun e w' => e = .returned (.bool r) ∧ Drawn0 w w' := by
  have HR0 := Aside0.mk hr0
  have HC0 := Aside0.mk hc0
  clear hr0 hc0
  have H : ((slices_Index_int_int.f k l0 a1).bind fun t252 => (some (decide (t252 ≥ 0)))) = some r := h
  clear h
  replace H := Option.bind_eq_some_iff.mp H
  obtain ⟨t252, A30, H⟩ := H
  replace H : (some (decide (t252 ≥ 0))) = some r := H
  have A3 := Aside0.mk A30
  clear A30
  obtain rfl := Option.some.inj H
  go_enter Try.func75, Try.ntmps75
  go_wp2_with (first | ((with_reducible refine gate_callee (f := 105) rfl ?_); refine goesL_ (some 7) rfl rfl Try.func105 (by kernel_rfl) rfl #[.slice A0 l0.length c0, .int .i64 a1] rfl (by (try simp only [List.map_toArray, List.map_cons, List.map_nil]); first | done | rfl | (simp only [List.length_drop, List.length_take]; rfl)) ?_; (with_reducible refine (slices_Index_int_int.calls k _ _ l0 a1 t252 _ ?side1 ?side2 A3.out).mono ?_); (case side1 => repeat (first | exact HR0.out | (with_reducible refine Kd.C_alloc ?_ _) | (with_reducible refine Kd.C_drewN ?_ _) | (with_reducible refine Kd.C_drew ?_))); (case side2 => exact HC0.out); rintro e w' ⟨rfl, ⟨nd, rfl⟩⟩; refine ⟨_, rfl, ?_⟩))
  go_ret
  exact ⟨by first | rfl | (simp; done) | (simp [*]; done), by repeat (first | exact Drawn0.refl _ | apply Drawn0.step)⟩

end Go.Proofs.Ytpfddihcikiofaa.P
end

section
/- term.Vars: the numbers of a tree's variables, as they first stand. -/
namespace Go.Proofs.Ytpfddihcikiofaa.P
open Go.RowKit Go.Shelf Go.Proofs.YtpfddihcikiofaaW.PrintWords Go.Proofs.YtpfddihcikiofaaW.PrintLast Go.Proofs.YtpfddihcikiofaaW.PrintMore
set_option linter.unusedVariables false
set_option linter.unusedSimpArgs false
attribute [local go_sem] Oper.semAt_some

theorem index_l0 (l : List Int) (a : Int) (hl : l.length < 4611686018427387904) (d : Nat) : ∀ (k i : Nat), i + d = l.length → d < k → a ∉ l.take i →
    ∃ r, slices_Index_int_int.l0 k l a (l.length : Int) (i : Int) = some r ∧ (decide (r ≥ 0) = decide (a ∈ l)) := by
  induction d with
  | zero =>
    intro k i hi hk hn
    obtain ⟨k, rfl⟩ : ∃ m, k = m + 1 := ⟨k - 1, by omega⟩
    refine ⟨-1, by simp only [slices_Index_int_int.l0]; rw [if_neg (by omega)], ?_⟩
    rw [List.take_of_length_le (by omega)] at hn
    simp [hn]
  | succ d ih =>
    intro k i hi hk hn
    obtain ⟨k, rfl⟩ : ∃ m, k = m + 1 := ⟨k - 1, by omega⟩
    have hlt : i < l.length := by omega
    have hrd : rd l (i : Int) = l[i] := by simp [rd, List.getD_eq_getElem?_getD, hlt]
    by_cases h : a = l[i]
    · refine ⟨i, by simp only [slices_Index_int_int.l0]; rw [if_pos (by omega), if_pos (by omega), if_pos (by omega), hrd, if_pos h], ?_⟩
      have : a ∈ l := by rw [h]; exact List.getElem_mem hlt
      simp [this]
    · obtain ⟨r, hr, h2⟩ := ih k (i + 1) (by omega) (by omega) (by rw [List.take_succ_eq_append_getElem hlt, List.mem_append, not_or]; exact ⟨hn, by simpa using h⟩)
      refine ⟨r, ?_, h2⟩
      simp only [slices_Index_int_int.l0]
      rw [if_pos (by omega), if_pos (by omega), if_pos (by omega), hrd, if_neg h, show wrap64 ((i : Int) + 1) = ((i + 1 : Nat) : Int) from by unfold wrap64; omega]
      exact hr
theorem contains_f (l : List Int) (a : Int) (hl : l.length < 4611686018427387904) : slices_Contains_int_int.f (l.length + 1) l a = some (decide (a ∈ l)) := by
  obtain ⟨r, hr, h2⟩ := index_l0 l a hl l.length (l.length + 1) 0 (by omega) (by omega) (by simp)
  unfold slices_Contains_int_int.f slices_Index_int_int.f
  rw [show ((0 : Nat) : Int) = 0 from rfl] at hr
  rw [hr]
  simp only [Option.bind_some, h2]

/-- One place more. -/
def varStep (out : List Int) (x : List Int × S30) : List Int := if x.2.f0 < 0 then (if decide (wrap64 (-1 - x.2.f0) ∈ out) = true then out else out ++ [wrap64 (-1 - x.2.f0)]) else out
def varsP (l : List (List Int × S30)) : List Int := l.foldl varStep []
theorem varsP_snoc (l : List (List Int × S30)) (x : List Int × S30) : varsP (l ++ [x]) = varStep (varsP l) x := by simp [varsP]
theorem varStep_len (out : List Int) (x : List Int × S30) : (varStep out x).length ≤ out.length + 1 := by
  unfold varStep
  split
  · split
    · omega
    · simp
  · omega
theorem varsP_len (l : List (List Int × S30)) : (varsP l).length ≤ l.length := by
  have key : ∀ (l : List (List Int × S30)) (o : List Int), (l.foldl varStep o).length ≤ o.length + l.length := by
    intro l
    induction l with
    | nil => intro o; simp
    | cons x l ih => intro o; have h1 := ih (varStep o x); have h2 := varStep_len o x; simp only [List.foldl_cons, List.length_cons]; omega
  simpa [varsP] using key l []
def term_Vars.f (a0_0 : Int) (l0_1 : List S30) : Option (List Int) := if (flatP [] ⟨a0_0, l0_1⟩).length ≤ 1099511627776 then some (varsP (flatP [] ⟨a0_0, l0_1⟩)) else none

set_option maxRecDepth 100000 in
set_option maxHeartbeats 2000000 in
theorem term_Vars.calls (a0_0 : Int) (A0_1 : Option Addr) (c0_1 : Nat) (l0_1 : List S30) (r : List Int) (w : World) (hr0_1 : Kd.C k30 w A0_1 l0_1.length l0_1) (hc0_1 : l0_1.length ≤ c0_1) (h : term_Vars.f a0_0 l0_1 = some r) :
    Calls Try.prog 32 #[.agg #[.int .i64 a0_0, .slice A0_1 l0_1.length c0_1]] w fun e w' => ∃ v0_ : Value, e = .returned (v0_) ∧ Kd.R (Kd.int .i64) 3 w' w.heap.size (fun _ => True) v0_ r ∧ Below w.heap.size w w' := by
  unfold term_Vars.f at h
  by_cases hM : (flatP [] ⟨a0_0, l0_1⟩).length ≤ 1099511627776
  · rw [if_pos hM] at h
    obtain rfl := Option.some.inj h
    clear h
    refine (callsIn_wide (n := 9)).1 ?_
    refine callsIn_of_wp_marks Try.func32 rfl trivial ?_ rfl
    simp only [Try.ntmps32, List.size_toArray, List.length_cons, List.length_nil, Nat.reduceAdd, Nat.reduceSub, Array.replicate_succ, Array.replicate_zero, List.push_toArray, List.append_toArray, List.nil_append, List.cons_append]
    gi_wp2_with (refine ⟨trivial, ?_⟩; (try refine ⟨wide_any _, ?_⟩); gi_at_call 72; refine (callsIn_wide.2 (all_any _ _ _)).mono ?_; rintro e w' ⟨rfl, rfl⟩)
    obtain ⟨W3, hW3⟩ : ∃ W, W = ((w.alloc (.cells #[.int .i64 a0_0, .slice A0_1 l0_1.length c0_1] 30)).alloc (.cells #[.slice none 0 0] 25)).alloc (.cells #[.int .i64 a0_0, .slice A0_1 l0_1.length c0_1] 30) := ⟨_, rfl⟩
    have hbx : W3.heap[w.heap.size + 1]? = some (.cells #[.slice none 0 0] 25 (0, 0)) := by
      have := heap_alloc_new (w.alloc (.cells #[.int .i64 a0_0, .slice A0_1 l0_1.length c0_1] 30)) (.cells #[.slice none 0 0] 25)
      rw [World.size_alloc] at this
      rw [hW3]
      exact blk_alloc this _
    have hbB : W3.heap[w.heap.size + 1 + 1]? = some (.cells #[.int .i64 a0_0, .slice A0_1 l0_1.length c0_1] 30 (0, 0)) := by
      have := heap_alloc_new ((w.alloc (.cells #[.int .i64 a0_0, .slice A0_1 l0_1.length c0_1] 30)).alloc (.cells #[.slice none 0 0] 25)) (.cells #[.int .i64 a0_0, .slice A0_1 l0_1.length c0_1] 30)
      rw [World.size_alloc, World.size_alloc] at this
      rw [hW3]
      exact this
    have hb2 : Below w.heap.size w W3 := by rw [hW3]; exact below_alloc (below_alloc (below_alloc (Below.refl _ _) _) _) _
    rw [← hW3]
    clear hW3
    have hF : Kd.F k30 W3 (fun k => ¬ (k = w.heap.size + 1 ∨ (Value.slice none 0 0).ownBlock = some k)) A0_1 l0_1.length l0_1 := Kd.F_mono (Kd.F_below (Kd.C_F k30_heap hr0_1) hb2) (fun k hk h => by simp [Value.ownBlock] at h; omega)
    refine range_all (t := ⟨a0_0, l0_1⟩) (n := 9) rfl (fun k => k = w.heap.size + 1 ∨ (Value.slice none 0 0).ownBlock = some k) A0_1 c0_1 hbB hF hc0_1 hM
      (fun S pre W => ∃ A c, S = (fun k => k = w.heap.size + 1 ∨ (Value.slice A (varsP pre).length c).ownBlock = some k) ∧ W.heap[w.heap.size + 1]? = some (.cells #[.slice A (varsP pre).length c] 25 (0, 0)) ∧ W.ownsRow (w.heap.size + 1 + 1) 3 1 (.slice A (varsP pre).length c) (varsP pre).length ((varsP pre).map (.int .i64)))
      ?hIc ?hIs ⟨none, 0, rfl, hbx, own_nil _ _ _ _⟩ (fun S n0 p s A c As cs a W => ∃ Bx, n0 ≤ Bx ∧ W.heap[Bx]? = some (.cells #[.int .i64 s.f0, .slice As s.f1.length cs] 30 (0, 0)) ∧ a = { tmps := #[.agg #[.int .i64 a0_0, .slice A0_1 l0_1.length c0_1], .pointer (some ⟨w.heap.size, 0, none⟩), .slice none 0 0, .pointer (some ⟨w.heap.size + 1, 0, none⟩), undef, .pointer (some ⟨Bx, 0, none⟩), undef, .agg #[.int .i64 a0_0, .slice A0_1 l0_1.length c0_1], .func (.func 103) #[] #[.pointer (some ⟨w.heap.size + 1 + 1, 0, none⟩)], .slice A p.length c, .agg #[.int .i64 s.f0, .slice As s.f1.length cs], undef, undef, undef, undef, undef, undef, undef, undef, undef, undef, undef, undef, undef, undef, undef, undef, undef], defers := [] }) ?hAx ?assign ?body ?done
    case hIc =>
      rintro S pre W ⟨A, c, rfl, hb, ho⟩ k (rfl | hk)
      · exact ⟨_, hb, rfl⟩
      · obtain ⟨cells, h⟩ := own_typed ho k hk
        exact ⟨_, h, rfl⟩
    case hIs =>
      rintro S pre W W' ⟨A, c, rfl, hb, ho⟩ hs hk
      exact ⟨A, c, rfl, (hk _ (.inl rfl) (blk_lt hb)).trans hb, own_move ho (fun k h => hk k (.inr h) (own_lt ho k h))⟩
    case hAx =>
      rintro S n0 p s A c As cs a₁ W W' ⟨Bx, hBx, hb, h⟩ _ hk
      exact ⟨Bx, hBx, (hk _ hBx (blk_lt hb)).trans hb, h⟩
    case assign =>
      intro l m S p s A c As cs W K hK
      gi_wp2
      refine hK _ _ (below_alloc (Below.refl _ _) _) ⟨W.heap.size, Nat.le_refl _, heap_alloc_new _ _, rfl⟩
    case body =>
      rintro l m S n0 pre p s A c As cs a₁ W ⟨Au, cu, rfl, hb, ho⟩ hn0 hle hlen hpm hp hpc hs hsc ⟨Bx, hBx, hbx, rfl⟩
      have hc0 : W.cell? ⟨w.heap.size + 1, 0, none⟩ = some (.slice Au (varsP pre).length cu) := (blk_cell hb 0).trans rfl
      have hf0 := blk_frozen hb 0
      have hc2 : W.cell? ⟨Bx, 0, none⟩ = some (.int .i64 s.f0) := (blk_cell hbx 0).trans rfl
      have hvl := varsP_len pre
      have hR : (Kd.int .i64).R 3 W (w.heap.size + 1 + 1) (fun _ => True) (.slice Au (varsP pre).length cu) (varsP pre) := Kd.R_of_own (by simpa [encs] using ho) (fun _ _ => trivial)
      obtain ⟨A', c', he, hcl, hC⟩ := Kd.R_reads hR
      injection he with he1 he2 he3
      subst he1 he3
      have hbz := Aside0.mk hb
      have hoz := Aside0.mk ho
      have hCz := Aside0.mk hC
      have hpz := Aside0.mk (varsP_snoc pre (p, s))
      clear hp hs hb hbx hR hC ho he2
      by_cases hneg : s.f0 < 0
      · have hnd : decide (s.f0 < 0) = true := decide_eq_true hneg
        have hcf := contains_f (varsP pre) (wrap64 (-1 - s.f0)) (by omega)
        by_cases hin : decide (wrap64 (-1 - s.f0) ∈ varsP pre) = true
        · rw [hin] at hcf
          have hfz := Aside0.mk hcf
          have hpe : varsP (pre ++ [(p, s)]) = varsP pre := by rw [hpz.out]; simp only [varStep]; rw [if_pos hneg, if_pos hin]
          have hpy := Aside0.mk hpe
          clear hpe hcf hin hneg
          gi_wp2_with (refine ⟨trivial, ?_⟩; (try refine ⟨wide_any _, ?_⟩); gi_at_call 75; refine (CallsIn.inRound l (callsIn_wide.2 (slices_Contains_int_int.calls _ _ _ _ _ _ _ hCz.out hcl hfz.out))).mono ?_; rintro e w' ⟨rfl, ⟨nd, rfl⟩⟩)
          refine ⟨_, ⟨Au, cu, rfl, ?_, ?_⟩, Keeps.drewN W _ _, fun k hk => .inl ?_⟩
          · rw [hpy.out]; exact blk_drewN hbz.out _
          · rw [hpy.out]; exact hoz.out
          · rw [hpy.out] at hk; exact hk
        · have hin' : decide (wrap64 (-1 - s.f0) ∈ varsP pre) = false := by simpa using hin
          rw [hin'] at hcf
          have hfz := Aside0.mk hcf
          have hpe : varsP (pre ++ [(p, s)]) = varsP pre ++ [wrap64 (-1 - s.f0)] := by rw [hpz.out]; simp only [varStep]; rw [if_pos hneg, if_neg hin]
          have hpy := Aside0.mk hpe
          obtain ⟨i0, hi, hz0, hz1, hz2⟩ := info_parts info3
          have hpe2 : (varsP (pre ++ [(p, s)])).length = (varsP pre).length + 1 := by rw [hpe]; simp
          have hpl := Aside0.mk hpe2
          have hW1 := blk_lt hbz.out
          have hoA : Aside0 (∀ nd, (W.drewN nd).ownsRow (w.heap.size + 1 + 1) 3 1 (.slice Au (varsP pre).length cu) (varsP pre).length ((varsP pre).map (.int .i64))) := ⟨fun nd => hoz.out⟩
          clear hpe hpe2 hcf hin hneg hin'
          have hne : Aside0 (some (w.heap.size + 1) ≠ (Value.slice Au (varsP pre).length cu).ownBlock) := ⟨fun e => by have := own_base hoz.out _ e.symm; omega⟩
          generalize hxe : wrap64 (-1 - s.f0) = xv at hfz hpy ⊢
          gi_wp2_with (first | (refine ⟨trivial, ?_⟩; (try refine ⟨wide_any _, ?_⟩); gi_at_call 75; refine (CallsIn.inRound l (callsIn_wide.2 (slices_Contains_int_int.calls _ _ _ _ _ _ _ hCz.out hcl hfz.out))).mono ?_; rintro e w' ⟨rfl, ⟨nd, rfl⟩⟩) | (gi_at_builtin; go_must (refine wpListIn_append_own_at _ rfl _ _ 25 rfl (w.heap.size + 1 + 1) 3 i0 (.int .i64 0) 1 8 Try.underlying25 hi hz0 hz1 hz2 rfl (by decide) _ _ _ rfl ((hoA.out _).alloc _) ⟨W.heap.size, 0, none⟩ 1 1 [.int .i64 xv] rfl rfl (cell_one_new _ _ _) (by simp [Value.oneCell']) (by simp only [maxLen]; omega) (by omega) (by simp; omega) ?_); intro v' w1 hown' hgrow _ hat; obtain ⟨g', cap', rfl⟩ := ownsRow_succ hown'; have hb1 := Aside0.mk (blk_grown (blk_alloc (blk_drewN hbz.out nd) _) hgrow (hne.out)); have hc3 : w1.cell? ⟨w.heap.size + 1, 0, none⟩ = some (.slice Au (varsP pre).length cu) := (blk_cell hb1.out 0).trans rfl; have hf3 := blk_frozen hb1.out 0; have hox := Aside0.mk hown'; have hgx := Aside0.mk hgrow; have hax := Aside0.mk hat; clear hown' hgrow hat))
          have hk1 : Keeps W w1 (fun k => (Value.slice Au (varsP pre).length cu).ownBlock = some k) :=
            (Keeps.of_below (below_alloc (pw_below_drewN (Below.refl _ _) nd) _) _).trans ⟨hgx.out.os, hgx.out.tape, hgx.out.output, hgx.out.size, fun k hk hn => hgx.out.block k hk (fun e => hn e.symm)⟩ (fun b h => .inl h)
          refine ⟨_, ⟨some ⟨g', 0, none⟩, cap', rfl, ?_, ?_⟩, (hk1.mono (fun k hk => .inr hk)).trans (Keeps.setCell w1 _ _) (fun b h => .inl (.inl h)), ?_⟩
          · rw [hpl.out]
            exact blk_put hb1.out 0 _ rfl
          · rw [hpl.out, hpy.out]
            have h1 := own_setCell hox.out (p := ⟨w.heap.size + 1, 0, none⟩) (fun e => by
              have h2 := own_base hox.out _ e.symm
              dsimp only at h2
              omega) (.slice (some ⟨g', 0, none⟩) ((varsP pre).length + 1) cap')
            simpa using h1
          · rintro k (rfl | hk)
            · exact .inl (.inl rfl)
            · rw [hpl.out] at hk
              rcases hax.out with h | h
              · exact .inl (.inr (h ▸ hk))
              · have h2 := h.symm.trans hk
                injection h2 with h2
                refine .inr ?_
                have h3 : W.heap.size + 1 = k := by simpa using h2
                omega
      · have hnd : decide (s.f0 < 0) = false := decide_eq_false hneg
        have hpe : varsP (pre ++ [(p, s)]) = varsP pre := by rw [hpz.out]; simp only [varStep]; rw [if_neg hneg]
        have hpy := Aside0.mk hpe
        clear hpe
        gi_wp2
        refine ⟨trivial, ?_⟩
        gi_wp2
        refine ⟨_, ⟨Au, cu, rfl, ?_, ?_⟩, Keeps.refl W _, fun k hk => .inl ?_⟩
        · rw [hpy.out]; exact hbz.out
        · rw [hpy.out]; exact hoz.out
        · rw [hpy.out] at hk; exact hk
    case done =>
      rintro D S' W' ⟨Au, cu, rfl, hb, ho⟩ hk _ hD hle
      have hc0 : W'.cell? ⟨w.heap.size + 1, 0, none⟩ = some (.slice Au (varsP (flatP [] ⟨a0_0, l0_1⟩)).length cu) := (blk_cell hb 0).trans rfl
      have hkz := Aside0.mk hk
      have hDz := Aside0.mk hD
      have hoz := Aside0.mk ho
      clear hk hD hb ho
      gi_wp2
      refine ⟨by simp, .inl ⟨_, _, rfl, run_takeDeferred hDz.out, ?_⟩⟩
      refine ⟨_, results_tmp rfl _ _ _, _, rfl, ?_, ?_⟩
      · refine Kd.R_of_own ?_ (fun _ _ => trivial)
        have h1 := own_weaken hoz.out (show w.heap.size ≤ w.heap.size + 1 + 1 by omega)
        have h2 : ∀ k, (Value.slice Au (varsP (flatP [] ⟨a0_0, l0_1⟩)).length cu).ownBlock = some k → (W'.putObj D (.deferred none)).heap[k]? = W'.heap[k]? := fun k hk => World.putObj_heap_other (fun e => by
          obtain ⟨cells, h3⟩ := own_typed hoz.out k hk
          have h4 := hDz.out
          subst e
          rw [h3] at h4
          cases h4)
        simpa [encs] using own_move h1 h2
      · have h1 := hkz.out.toBelow hb2.size (fun b hb => by simp [Value.ownBlock] at hb; omega)
        have h2 := hkz.out.size
        have h3 := hb2.size
        exact below_put (hb2.trans h1) (by omega) (by omega) _
  · rw [if_neg hM] at h
    cases h
end Go.Proofs.Ytpfddihcikiofaa.P
end

section
/- term.Count: at how many places of a tree a symbol or variable stands. -/
namespace Go.Proofs.Ytpfddihcikiofaa.P
open Go.RowKit Go.Shelf Go.Proofs.YtpfddihcikiofaaW.PrintWords Go.Proofs.YtpfddihcikiofaaW.PrintLast Go.Proofs.YtpfddihcikiofaaW.PrintMore
set_option linter.unusedVariables false
set_option linter.unusedSimpArgs false
attribute [local go_sem] Oper.semAt_some

def countP (f : Int) (l : List (List Int × S30)) : Nat := (l.filter fun x => x.2.f0 == f).length
theorem countP_snoc (f : Int) (l : List (List Int × S30)) (p : List Int) (s : S30) : countP f (l ++ [(p, s)]) = countP f l + if s.f0 == f then 1 else 0 := by
  unfold countP
  rw [List.filter_append, List.length_append]
  by_cases h : (s.f0 == f) = true
  · simp [h]
  · simp [h]
theorem countP_le (f : Int) (l : List (List Int × S30)) : countP f l ≤ l.length := List.length_filter_le _ _
def term_Count.f (a0_0 : Int) (l0_1 : List S30) (a1 : Int) : Option Int := if (flatP [] ⟨a0_0, l0_1⟩).length ≤ 1099511627776 then some (countP a1 (flatP [] ⟨a0_0, l0_1⟩) : Int) else none

set_option maxRecDepth 100000 in
set_option maxHeartbeats 2000000 in
theorem term_Count.calls (a0_0 : Int) (A0_1 : Option Addr) (c0_1 : Nat) (l0_1 : List S30) (a1 : Int) (r : Int) (w : World) (hr0_1 : Kd.C k30 w A0_1 l0_1.length l0_1) (hc0_1 : l0_1.length ≤ c0_1) (h : term_Count.f a0_0 l0_1 a1 = some r) :
    Calls Try.prog 35 #[.agg #[.int .i64 a0_0, .slice A0_1 l0_1.length c0_1], .int .i64 a1] w fun e w' => e = .returned (.int .i64 r) ∧ Below w.heap.size w w' := by
  unfold term_Count.f at h
  by_cases hM : (flatP [] ⟨a0_0, l0_1⟩).length ≤ 1099511627776
  · rw [if_pos hM] at h
    obtain rfl := Option.some.inj h
    clear h
    refine (callsIn_wide (n := 9)).1 ?_
    refine callsIn_of_wp_marks Try.func35 rfl trivial ?_ rfl
    simp only [Try.ntmps35, List.size_toArray, List.length_cons, List.length_nil, Nat.reduceAdd, Nat.reduceSub, Array.replicate_succ, Array.replicate_zero, List.push_toArray, List.append_toArray, List.nil_append, List.cons_append]
    gi_wp2_with (refine ⟨trivial, ?_⟩; (try refine ⟨wide_any _, ?_⟩); gi_at_call 72; refine (callsIn_wide.2 (all_any _ _ _)).mono ?_; rintro e w' ⟨rfl, rfl⟩)
    obtain ⟨W3, hW3⟩ : ∃ W, W = (((w.alloc (.cells #[.int .i64 a0_0, .slice A0_1 l0_1.length c0_1] 30)).alloc (.cells #[.int .i64 a1] 3)).alloc (.cells #[.int .i64 0] 3)).alloc (.cells #[.int .i64 a0_0, .slice A0_1 l0_1.length c0_1] 30) := ⟨_, rfl⟩
    have hbf : W3.heap[w.heap.size + 1]? = some (.cells #[.int .i64 a1] 3 (0, 0)) := by
      have := heap_alloc_new (w.alloc (.cells #[.int .i64 a0_0, .slice A0_1 l0_1.length c0_1] 30)) (.cells #[.int .i64 a1] 3)
      rw [World.size_alloc] at this
      rw [hW3]
      exact blk_alloc (blk_alloc this _) _
    have hbx : W3.heap[w.heap.size + 1 + 1]? = some (.cells #[.int .i64 0] 3 (0, 0)) := by
      have := heap_alloc_new ((w.alloc (.cells #[.int .i64 a0_0, .slice A0_1 l0_1.length c0_1] 30)).alloc (.cells #[.int .i64 a1] 3)) (.cells #[.int .i64 0] 3)
      rw [World.size_alloc, World.size_alloc] at this
      rw [hW3]
      exact blk_alloc this _
    have hbB : W3.heap[w.heap.size + 1 + 1 + 1]? = some (.cells #[.int .i64 a0_0, .slice A0_1 l0_1.length c0_1] 30 (0, 0)) := by
      have := heap_alloc_new (((w.alloc (.cells #[.int .i64 a0_0, .slice A0_1 l0_1.length c0_1] 30)).alloc (.cells #[.int .i64 a1] 3)).alloc (.cells #[.int .i64 0] 3)) (.cells #[.int .i64 a0_0, .slice A0_1 l0_1.length c0_1] 30)
      rw [World.size_alloc, World.size_alloc, World.size_alloc] at this
      rw [hW3]
      exact this
    have hb2 : Below w.heap.size w W3 := by rw [hW3]; exact below_alloc (below_alloc (below_alloc (below_alloc (Below.refl _ _) _) _) _) _
    rw [← hW3]
    clear hW3
    have hF : Kd.F k30 W3 (fun k => ¬ (k = w.heap.size + 1 ∨ k = w.heap.size + 1 + 1)) A0_1 l0_1.length l0_1 := Kd.F_mono (Kd.F_below (Kd.C_F k30_heap hr0_1) hb2) (fun k hk h => by omega)
    refine range_all (t := ⟨a0_0, l0_1⟩) (n := 9) rfl (fun k => k = w.heap.size + 1 ∨ k = w.heap.size + 1 + 1) A0_1 c0_1 hbB hF hc0_1 hM
      (fun S pre W => S = (fun k => k = w.heap.size + 1 ∨ k = w.heap.size + 1 + 1) ∧ W.heap[w.heap.size + 1]? = some (.cells #[.int .i64 a1] 3 (0, 0)) ∧ W.heap[w.heap.size + 1 + 1]? = some (.cells #[.int .i64 (countP a1 pre : Int)] 3 (0, 0)))
      ?hIc ?hIs ⟨rfl, hbf, hbx⟩ (fun S n0 p s A c As cs a W => ∃ Bx, n0 ≤ Bx ∧ W.heap[Bx]? = some (.cells #[.int .i64 s.f0, .slice As s.f1.length cs] 30 (0, 0)) ∧ a = { tmps := #[.agg #[.int .i64 a0_0, .slice A0_1 l0_1.length c0_1], .int .i64 a1, .pointer (some ⟨w.heap.size, 0, none⟩), .pointer (some ⟨w.heap.size + 1, 0, none⟩), .int .i64 0, .pointer (some ⟨w.heap.size + 1 + 1, 0, none⟩), undef, .pointer (some ⟨Bx, 0, none⟩), .agg #[.int .i64 a0_0, .slice A0_1 l0_1.length c0_1], .func (.func 103) #[] #[.pointer (some ⟨w.heap.size + 1 + 1 + 1, 0, none⟩)], .slice A p.length c, .agg #[.int .i64 s.f0, .slice As s.f1.length cs], undef, undef, undef, undef, undef, undef, undef], defers := [] }) ?hAx ?assign ?body ?done
    case hIc =>
      rintro S pre W ⟨rfl, hf, hb⟩ k (rfl | rfl)
      · exact ⟨_, hf, rfl⟩
      · exact ⟨_, hb, rfl⟩
    case hIs =>
      rintro S pre W W' ⟨rfl, hf, hb⟩ hs hk
      exact ⟨rfl, (hk _ (.inl rfl) (blk_lt hf)).trans hf, (hk _ (.inr rfl) (blk_lt hb)).trans hb⟩
    case hAx =>
      rintro S n0 p s A c As cs a₁ W W' ⟨Bx, hBx, hb, h⟩ _ hk
      exact ⟨Bx, hBx, (hk _ hBx (blk_lt hb)).trans hb, h⟩
    case assign =>
      intro l m S p s A c As cs W K hK
      gi_wp2
      refine hK _ _ (below_alloc (Below.refl _ _) _) ⟨W.heap.size, Nat.le_refl _, heap_alloc_new _ _, rfl⟩
    case body =>
      rintro l m S n0 pre p s A c As cs a₁ W ⟨rfl, hfb, hb⟩ hn0 hle hlen hpm hp hpc hs hsc ⟨Bx, hBx, hbx, rfl⟩
      have hc0 : W.cell? ⟨w.heap.size + 1 + 1, 0, none⟩ = some (.int .i64 (countP a1 pre : Int)) := (blk_cell hb 0).trans rfl
      have hf0 := blk_frozen hb 0
      have hc1 : W.cell? ⟨w.heap.size + 1, 0, none⟩ = some (.int .i64 a1) := (blk_cell hfb 0).trans rfl
      have hc2 : W.cell? ⟨Bx, 0, none⟩ = some (.int .i64 s.f0) := (blk_cell hbx 0).trans rfl
      have hcl := countP_le a1 pre
      have hpl : (countP a1 pre : Int) < 1099511627776 := by omega
      have hbz := Aside0.mk hb
      have hfz := Aside0.mk hfb
      have hsn := Aside0.mk (countP_snoc a1 pre p s)
      clear hp hs hb hfb hbx hcl
      by_cases heq : (s.f0 == a1) = true
      · gi_wp2
        refine ⟨_, ⟨rfl, blk_far hfz.out (p := ⟨w.heap.size + 1 + 1, 0, none⟩) (by show w.heap.size + 1 ≠ w.heap.size + 1 + 1; omega) _, ?_⟩, (Keeps.setCell W _ _).mono (fun k hk => .inr hk), fun k hk => .inl hk⟩
        have := blk_put hbz.out 0 (.int .i64 ((countP a1 pre : Int) + 1)) rfl
        rw [hsn.out, if_pos heq]
        simpa using this
      · have heq' : (s.f0 == a1) = false := by simpa using heq
        clear heq
        gi_wp2
        refine ⟨_, ⟨rfl, hfz.out, ?_⟩, Keeps.refl W _, fun k hk => .inl hk⟩
        rw [hsn.out, heq']
        simpa using hbz.out
    case done =>
      rintro D S' W' ⟨rfl, _, hb⟩ hk _ hD hle
      have hc0 : W'.cell? ⟨w.heap.size + 1 + 1, 0, none⟩ = some (.int .i64 (countP a1 (flatP [] ⟨a0_0, l0_1⟩) : Int)) := (blk_cell hb 0).trans rfl
      have hkz := Aside0.mk hk
      have hDz := Aside0.mk hD
      clear hk hD hb
      gi_wp2
      refine ⟨by simp, .inl ⟨_, _, rfl, run_takeDeferred hDz.out, ?_⟩⟩
      refine ⟨_, results_tmp rfl _ _ _, rfl, ?_⟩
      have h1 := hkz.out.toBelow hb2.size (fun b hb => by omega)
      have h2 := hkz.out.size
      have h3 := hb2.size
      exact below_put (hb2.trans h1) (by omega) (by omega) _
  · rw [if_neg hM] at h
    cases h
end Go.Proofs.Ytpfddihcikiofaa.P
end

section
/- term.Size: how many places a tree has. -/
namespace Go.Proofs.Ytpfddihcikiofaa.P
open Go.RowKit Go.Shelf Go.Proofs.YtpfddihcikiofaaW.PrintWords Go.Proofs.YtpfddihcikiofaaW.PrintLast Go.Proofs.YtpfddihcikiofaaW.PrintMore
set_option linter.unusedVariables false
set_option linter.unusedSimpArgs false
attribute [local go_sem] Oper.semAt_some

def term_Size.f (a0_0 : Int) (l0_1 : List S30) : Option Int := if (flatP [] ⟨a0_0, l0_1⟩).length ≤ 1099511627776 then some ((flatP [] ⟨a0_0, l0_1⟩).length : Int) else none

set_option maxRecDepth 100000 in
set_option maxHeartbeats 2000000 in
theorem term_Size.calls (a0_0 : Int) (A0_1 : Option Addr) (c0_1 : Nat) (l0_1 : List S30) (r : Int) (w : World) (hr0_1 : Kd.C k30 w A0_1 l0_1.length l0_1) (hc0_1 : l0_1.length ≤ c0_1) (h : term_Size.f a0_0 l0_1 = some r) :
    Calls Try.prog 34 #[.agg #[.int .i64 a0_0, .slice A0_1 l0_1.length c0_1]] w fun e w' => e = .returned (.int .i64 r) ∧ Below w.heap.size w w' := by
  unfold term_Size.f at h
  by_cases hM : (flatP [] ⟨a0_0, l0_1⟩).length ≤ 1099511627776
  · rw [if_pos hM] at h
    obtain rfl := Option.some.inj h
    clear h
    refine (callsIn_wide (n := 9)).1 ?_
    refine callsIn_of_wp_marks Try.func34 rfl trivial ?_ rfl
    simp only [Try.ntmps34, List.size_toArray, List.length_cons, List.length_nil, Nat.reduceAdd, Nat.reduceSub, Array.replicate_succ, Array.replicate_zero, List.push_toArray, List.append_toArray, List.nil_append, List.cons_append]
    gi_wp2_with (refine ⟨trivial, ?_⟩; (try refine ⟨wide_any _, ?_⟩); gi_at_call 72; refine (callsIn_wide.2 (all_any _ _ _)).mono ?_; rintro e w' ⟨rfl, rfl⟩)
    have hbx : (((w.alloc (.cells #[.int .i64 a0_0, .slice A0_1 l0_1.length c0_1] 30)).alloc (.cells #[.int .i64 0] 3)).alloc (.cells #[.int .i64 a0_0, .slice A0_1 l0_1.length c0_1] 30)).heap[w.heap.size + 1]? = some (.cells #[.int .i64 0] 3 (0, 0)) := by
      have := heap_alloc_new (w.alloc (.cells #[.int .i64 a0_0, .slice A0_1 l0_1.length c0_1] 30)) (.cells #[.int .i64 0] 3)
      rw [World.size_alloc] at this
      exact blk_alloc this _
    have hbB : (((w.alloc (.cells #[.int .i64 a0_0, .slice A0_1 l0_1.length c0_1] 30)).alloc (.cells #[.int .i64 0] 3)).alloc (.cells #[.int .i64 a0_0, .slice A0_1 l0_1.length c0_1] 30)).heap[w.heap.size + 1 + 1]? = some (.cells #[.int .i64 a0_0, .slice A0_1 l0_1.length c0_1] 30 (0, 0)) := by
      have := heap_alloc_new ((w.alloc (.cells #[.int .i64 a0_0, .slice A0_1 l0_1.length c0_1] 30)).alloc (.cells #[.int .i64 0] 3)) (.cells #[.int .i64 a0_0, .slice A0_1 l0_1.length c0_1] 30)
      rwa [World.size_alloc, World.size_alloc] at this
    have hb2 : Below w.heap.size w (((w.alloc (.cells #[.int .i64 a0_0, .slice A0_1 l0_1.length c0_1] 30)).alloc (.cells #[.int .i64 0] 3)).alloc (.cells #[.int .i64 a0_0, .slice A0_1 l0_1.length c0_1] 30)) := below_alloc (below_alloc (below_alloc (Below.refl _ _) _) _) _
    generalize ((w.alloc (.cells #[.int .i64 a0_0, .slice A0_1 l0_1.length c0_1] 30)).alloc (.cells #[.int .i64 0] 3)).alloc (.cells #[.int .i64 a0_0, .slice A0_1 l0_1.length c0_1] 30) = w2 at hbx hbB hb2 ⊢
    have hF : Kd.F k30 w2 (fun k => ¬ k = w.heap.size + 1) A0_1 l0_1.length l0_1 := Kd.F_mono (Kd.F_below (Kd.C_F k30_heap hr0_1) hb2) (fun k hk h => by omega)
    refine range_all (t := ⟨a0_0, l0_1⟩) (n := 9) rfl (fun k => k = w.heap.size + 1) A0_1 c0_1 hbB hF hc0_1 hM
      (fun S pre W => S = (fun k => k = w.heap.size + 1) ∧ W.heap[w.heap.size + 1]? = some (.cells #[.int .i64 (pre.length : Int)] 3 (0, 0)))
      ?hIc ?hIs ⟨rfl, hbx⟩ (fun S n0 p s A c As cs a W => a = { tmps := #[.agg #[.int .i64 a0_0, .slice A0_1 l0_1.length c0_1], .pointer (some ⟨w.heap.size, 0, none⟩), .int .i64 0, .pointer (some ⟨w.heap.size + 1, 0, none⟩), .agg #[.int .i64 a0_0, .slice A0_1 l0_1.length c0_1], .func (.func 103) #[] #[.pointer (some ⟨w.heap.size + 1 + 1, 0, none⟩)], .slice A p.length c, .agg #[.int .i64 s.f0, .slice As s.f1.length cs], undef, undef, undef], defers := [] }) ?hAx ?assign ?body ?done
    case hIc =>
      rintro S pre W ⟨rfl, hb⟩ k rfl
      exact ⟨_, hb, rfl⟩
    case hIs =>
      rintro S pre W W' ⟨rfl, hb⟩ hs hk
      exact ⟨rfl, (hk _ rfl (blk_lt hb)).trans hb⟩
    case hAx =>
      intro S n0 p s A c As cs a₁ W W' h _ _
      exact h
    case assign =>
      intro l m S p s A c As cs W K hK
      gi_wp2
      exact hK _ _ (Below.refl _ _) (by rfl)
    case body =>
      rintro l m S n0 pre p s A c As cs a₁ W ⟨rfl, hb⟩ hn0 hle hlen hpm hp hpc hs hsc rfl
      have hc0 : W.cell? ⟨w.heap.size + 1, 0, none⟩ = some (.int .i64 (pre.length : Int)) := (blk_cell hb 0).trans rfl
      have hf0 := blk_frozen hb 0
      have hpl : (pre.length : Int) < 1099511627776 := by omega
      have hbz := Aside0.mk hb
      clear hp hs hb
      gi_wp2
      refine ⟨_, ⟨rfl, ?_⟩, Keeps.setCell W _ _, fun k hk => .inl hk⟩
      have := blk_put hbz.out 0 (.int .i64 ((pre.length : Int) + 1)) rfl
      simpa using this
    case done =>
      rintro D S' W' ⟨rfl, hb⟩ hk _ hD hle
      have hc0 : W'.cell? ⟨w.heap.size + 1, 0, none⟩ = some (.int .i64 ((flatP [] ⟨a0_0, l0_1⟩).length : Int)) := (blk_cell hb 0).trans rfl
      have hkz := Aside0.mk hk
      have hDz := Aside0.mk hD
      clear hk hD hb
      gi_wp2
      refine ⟨by simp, .inl ⟨_, _, rfl, run_takeDeferred hDz.out, ?_⟩⟩
      refine ⟨_, results_tmp rfl _ _ _, rfl, ?_⟩
      have h1 := hkz.out.toBelow hb2.size (fun b hb => by omega)
      have h2 := hkz.out.size
      have h3 := hb2.size
      exact below_put (hb2.trans h1) (by omega) (by omega) _
  · rw [if_neg hM] at h
    cases h
end Go.Proofs.Ytpfddihcikiofaa.P
end

section
/- slices.Clone at []int. -/
namespace Go.Proofs.Ytpfddihcikiofaa.P
open Go.RowKit Go.Proofs.YtpfddihcikiofaaW.PrintWords Go.Proofs.YtpfddihcikiofaaW.PrintLast Go.Proofs.YtpfddihcikiofaaW.PrintMore
set_option linter.unusedVariables false
set_option linter.unusedSimpArgs false

set_option maxRecDepth 100000 in
set_option maxHeartbeats 1000000 in
theorem clone_ints (A : Option Addr) (c : Nat) (l : List Int) (w : World) (hC : (Kd.int .i64).C w A l.length l) (hc : l.length ≤ c) (hl : l.length * 8 ≤ 140737488355328) :
    Calls Try.prog 73 #[.slice A l.length c] w fun e w' => ∃ v : Value, e = .returned v ∧ (Kd.int .i64).R 3 w' w.heap.size (fun _ => True) v l ∧ Below w.heap.size w w' := by
  have hnil := fun (W : World) => Lib.run_eql_slice_nil (P := Try.prog) W 25 3 A l.length c 0 0 Try.underlying25
  cases A with
  | none =>
    have h0 : l = [] := by
      rcases Nat.eq_zero_or_pos l.length with h | h
      · exact List.eq_nil_of_length_eq_zero h
      · obtain ⟨ad, e, _⟩ := hC.2.2 h
        cases e
    subst h0
    have hn0 := fun (W : World) => Lib.run_eql_slice_nil (P := Try.prog) W 25 3 none 0 c 0 0 Try.underlying25
    clear hnil
    go_enter Try.func73, Try.ntmps73
    go_wp2
    go_ret
    exact ⟨_, rfl, Kd.R_nil _ _ _ _ _, Below.refl _ _⟩
  | some ad =>
    have HC := Aside0.mk hC
    go_enter Try.func73, Try.ntmps73
    have hO : (Kd.int .i64).R 3 (w.alloc (.cells #[] 3)) w.heap.size (fun _ => True) (.slice (some ⟨w.heap.size, 0, none⟩) 0 0) [] := Kd.R_of_own (by simpa [encs] using World.ownsRow_lit (base := w.heap.size) (e := 3) (size := 1) w #[] 0 (Nat.le_refl _) (by simp [maxLen]) (by simp)) (fun _ _ => trivial)
    have HO := Aside0.mk hO
    have HB := Aside0.mk (below_alloc (Below.refl w.heap.size w) (.cells #[] 3))
    have HL := Aside0.mk hl
    clear hO hl hC
    go_wp2_with (at_builtin; refine Kd.R_append_row (w0 := w) (Value.int .i64) 0 w.heap.size rfl (.tmp 5) (.tmp 6) 25 3 (.int .i64 0) 8 rfl Try.underlying25 info3 rfl (by omega) _ [] l (some ad) l.length c (fun _ => True) rfl rfl (fun _ _ => trivial) HO.out (Kd.C_below HC.out HB.out) HB.out (by simp) (by have := HL.out; simp; omega) ?_; intro v1 w1 ho hb hg hat; have HO1 := Aside0.mk ho; have HB1 := Aside0.mk hb; clear ho hb hg hat)
    go_ret
    exact ⟨_, rfl, HO1.out, HB1.out⟩
end Go.Proofs.Ytpfddihcikiofaa.P
end

section
/- term.Places: all places of a tree, in order. -/
namespace Go.Proofs.Ytpfddihcikiofaa.P
open Go.RowKit Go.Shelf Go.Proofs.YtpfddihcikiofaaW.PrintWords Go.Proofs.YtpfddihcikiofaaW.PrintLast Go.Proofs.YtpfddihcikiofaaW.PrintMore
set_option linter.unusedVariables false
set_option linter.unusedSimpArgs false
attribute [local go_sem] Oper.semAt_some

section
variable {F : Fence} {nF : Nat} {P : Program}
/-- append to a row of the call's own, as a step of a region inside a fence. -/
theorem stepIn_append_own_at {ops : Array Oper} {o : Oper} {a : Act} {w : World} {K : Act → World → Prop} {Q : Exit → Act → World → Prop} {E : Prop} (hgd : o.guard = none) (s x : Operand) (t : TypeId)
    (ho : o.op = .call { callee := .builtin .append, args := #[s, x], argTypes := #[t, t] })
    (base : Nat) (e : TypeId) (i : TypeInfo) (z : Value) (size bytes : Nat) (ht : P.underlying t = some (.slice e)) (hi : P.info? e = some i) (hz : i.zero = some z)
    (hsize : i.size = size) (hby : i.bytes = bytes) (hzs : z.cells.size = size) (hsz : 0 < size)
    (v : Value) (n : Nat) (xs : List Value) (hs : a.eval s = v) (hown : w.ownsRow base e size v n xs)
    (ad : Addr) (m c : Nat) (news : List Value) (hx : a.eval x = .slice (some ad) m c) (hl : news.length = m * size) (hnews : ∀ j u, news[j]? = some u → w.cell? (ad.add j) = some u) (h1 : ∀ u ∈ news, u.oneCell' = true)
    (h63 : n + m ≤ maxLen) (hbytes : (n + m) * bytes ≤ 140737488355328) (hbase : base ≤ w.heap.size)
    (h : ∀ v' w', w'.ownsRow base e size v' (n + m) (xs ++ news) → w.grownBy w' v.ownBlock → (v'.ownBlock = v.ownBlock ∨ v'.ownBlock = some w.heap.size) → K (a.put o.dst v') w') :
    if Region.wanted o (yielded ops a.tmps) = true then Oper.wpIn F nF P o a w K Q else E := by
  have hw : Region.wanted o (yielded ops a.tmps) = true := by simp [Region.wanted, hgd]
  rw [if_pos hw]
  obtain ⟨v', w', hr, h2, h3, h4, h5⟩ := run_append_own_at (P := P) w base t o.type e i z size bytes ht hi hz hsize hby hzs hsz v n xs hown ad m c news hl hnews h1 h63 hbytes hbase
  unfold Oper.wpIn
  refine ⟨by simp [Oper.about, ho, resolve, Target.leads, Sem.run_pure], ?_⟩
  rw [Oper.semAt_plain F _ _ (by rw [ho]; intro c hc'; cases hc')]
  simp [execOp, ho, resolve, invoke, builtin, hs, hx, hr, Result.andThen]
  exact h v' w' h2 h3 h5
end

def term_Places.f (a0_0 : Int) (l0_1 : List S30) : Option (List (List Int)) := if (flatP [] ⟨a0_0, l0_1⟩).length ≤ 1099511627776 then some ((flatP [] ⟨a0_0, l0_1⟩).map Prod.fst) else none

/-- The list of places so far: its box, its row, the rows in it, all the call's own. -/
def PlInv (Bl : Nat) (S : Nat → Prop) (l : List (List Int)) (W : World) : Prop :=
  ∃ (P : Nat → Prop) (A : Option Addr) (c : Nat), S = (fun k => k = Bl ∨ P k) ∧ W.heap[Bl]? = some (.cells #[.slice A l.length c] 32 (0, 0)) ∧ (Kd.slice 3 (Kd.int .i64)).R 25 W (Bl + 1) P (.slice A l.length c) l ∧
    ∀ k, P k → k ≠ Bl ∧ ∃ (q : Nat) (cells : Array Value), W.heap[k]? = some (.cells cells q (0, 0))
theorem PlInv.cells {Bl : Nat} {S : Nat → Prop} {l : List (List Int)} {W : World} (h : PlInv Bl S l W) {k : Nat} (hk : S k) : ∃ o : Obj, W.heap[k]? = some o ∧ o.isCells = true := by
  obtain ⟨P, A, c, rfl, hb, _, hP⟩ := h
  rcases hk with rfl | hk
  · exact ⟨_, hb, rfl⟩
  · obtain ⟨_, q, cells, h⟩ := hP k hk
    exact ⟨_, h, rfl⟩
theorem PlInv.step {Bl : Nat} {S : Nat → Prop} {l : List (List Int)} {W W' : World} (h : PlInv Bl S l W) (hk : ∀ k, S k → k < W.heap.size → W'.heap[k]? = W.heap[k]?) : PlInv Bl S l W' := by
  obtain ⟨P, A, c, rfl, hb, hR, hP⟩ := h
  refine ⟨P, A, c, rfl, (hk _ (.inl rfl) (blk_lt hb)).trans hb, Kd.R_step hR (fun k h hlt => hk k (.inr h) hlt), fun k h => ⟨(hP k h).1, ?_⟩⟩
  obtain ⟨_, q, cells, hc⟩ := hP k h
  exact ⟨q, cells, (hk k (.inr h) (blk_lt hc)).trans hc⟩

set_option maxRecDepth 100000 in
set_option maxHeartbeats 2000000 in
theorem term_Places.calls (a0_0 : Int) (A0_1 : Option Addr) (c0_1 : Nat) (l0_1 : List S30) (r : List (List Int)) (w : World) (hr0_1 : Kd.C k30 w A0_1 l0_1.length l0_1) (hc0_1 : l0_1.length ≤ c0_1) (h : term_Places.f a0_0 l0_1 = some r) :
    Calls Try.prog 23 #[.agg #[.int .i64 a0_0, .slice A0_1 l0_1.length c0_1]] w fun e w' => ∃ v0_ : Value, e = .returned (v0_) ∧ Kd.R (Kd.slice 3 (Kd.int .i64)) 25 w' w.heap.size (fun _ => True) v0_ r ∧ Below w.heap.size w w' := by
  unfold term_Places.f at h
  by_cases hM : (flatP [] ⟨a0_0, l0_1⟩).length ≤ 1099511627776
  · rw [if_pos hM] at h
    obtain rfl := Option.some.inj h
    clear h
    refine (callsIn_wide (n := 9)).1 ?_
    refine callsIn_of_wp_marks Try.func23 rfl trivial ?_ rfl
    simp only [Try.ntmps23, List.size_toArray, List.length_cons, List.length_nil, Nat.reduceAdd, Nat.reduceSub, Array.replicate_succ, Array.replicate_zero, List.push_toArray, List.append_toArray, List.nil_append, List.cons_append]
    gi_wp2_with (refine ⟨trivial, ?_⟩; (try refine ⟨wide_any _, ?_⟩); gi_at_call 72; refine (callsIn_wide.2 (all_any _ _ _)).mono ?_; rintro e w' ⟨rfl, rfl⟩)
    obtain ⟨W3, hW3⟩ : ∃ W, W = ((w.alloc (.cells #[.int .i64 a0_0, .slice A0_1 l0_1.length c0_1] 30)).alloc (.cells #[.slice none 0 0] 32)).alloc (.cells #[.int .i64 a0_0, .slice A0_1 l0_1.length c0_1] 30) := ⟨_, rfl⟩
    have hbx : W3.heap[w.heap.size + 1]? = some (.cells #[.slice none 0 0] 32 (0, 0)) := by
      have := heap_alloc_new (w.alloc (.cells #[.int .i64 a0_0, .slice A0_1 l0_1.length c0_1] 30)) (.cells #[.slice none 0 0] 32)
      rw [World.size_alloc] at this
      rw [hW3]
      exact blk_alloc this _
    have hbB : W3.heap[w.heap.size + 1 + 1]? = some (.cells #[.int .i64 a0_0, .slice A0_1 l0_1.length c0_1] 30 (0, 0)) := by
      have := heap_alloc_new ((w.alloc (.cells #[.int .i64 a0_0, .slice A0_1 l0_1.length c0_1] 30)).alloc (.cells #[.slice none 0 0] 32)) (.cells #[.int .i64 a0_0, .slice A0_1 l0_1.length c0_1] 30)
      rw [World.size_alloc, World.size_alloc] at this
      rw [hW3]
      exact this
    have hb2 : Below w.heap.size w W3 := by rw [hW3]; exact below_alloc (below_alloc (below_alloc (Below.refl _ _) _) _) _
    rw [← hW3]
    clear hW3
    have hF : Kd.F k30 W3 (fun k => ¬ (k = w.heap.size + 1 ∨ False)) A0_1 l0_1.length l0_1 := Kd.F_mono (Kd.F_below (Kd.C_F k30_heap hr0_1) hb2) (fun k hk h => h.elim (fun h => by omega) id)
    refine range_all (t := ⟨a0_0, l0_1⟩) (n := 9) rfl (fun k => k = w.heap.size + 1 ∨ False) A0_1 c0_1 hbB hF hc0_1 hM
      (fun S pre W => PlInv (w.heap.size + 1) S (pre.map Prod.fst) W)
      ?hIc ?hIs ⟨fun _ => False, none, 0, rfl, hbx, Kd.R_nil _ _ _ _ _, fun k h => h.elim⟩ (fun S n0 p s A c As cs a W => a = { tmps := #[.agg #[.int .i64 a0_0, .slice A0_1 l0_1.length c0_1], .pointer (some ⟨w.heap.size, 0, none⟩), .slice none 0 0, .pointer (some ⟨w.heap.size + 1, 0, none⟩), .slice A p.length c, .agg #[.int .i64 a0_0, .slice A0_1 l0_1.length c0_1], .func (.func 103) #[] #[.pointer (some ⟨w.heap.size + 1 + 1, 0, none⟩)], .slice A p.length c, .agg #[.int .i64 s.f0, .slice As s.f1.length cs], undef, undef, undef, undef, undef, undef], defers := [] }) ?hAx ?assign ?body ?done
    case hIc =>
      intro S pre W h k hk
      exact h.cells hk
    case hIs =>
      intro S pre W W' h hs hk
      exact h.step hk
    case hAx =>
      intro S n0 p s A c As cs a₁ W W' h _ _
      exact h
    case assign =>
      intro l m S p s A c As cs W K hK
      gi_wp2
      exact hK _ _ (Below.refl _ _) rfl
    case body =>
      rintro l m S n0 pre p s A c As cs a₁ W hI hn0 hle hlen hpm hp hpc hs hsc rfl
      obtain ⟨P, Au, cu, rfl, hb, hR, hP⟩ := hI
      rw [List.length_map] at hb hR
      have hmx : Try.prog.follows .mixedOrders = true := by kernel_rfl
      have hpl : p.length * 8 ≤ 140737488355328 := by omega
      have hC := Kd.F_now hp
      have hc0 : W.cell? ⟨w.heap.size + 1, 0, none⟩ = some (.slice Au pre.length cu) := (blk_cell hb 0).trans rfl
      have hf0 := blk_frozen hb 0
      have hCz := Aside0.mk hC
      have hbz := Aside0.mk hb
      have hRz := Aside0.mk hR
      have hPz := Aside0.mk hP
      obtain ⟨inner0, ho0⟩ := Kd.R_own hR
      rw [List.length_map] at ho0
      have hoz := Aside0.mk ho0
      have hW : w.heap.size + 1 < W.heap.size := blk_lt hb
      obtain ⟨i0, hi, hz0, hz1, hz2⟩ := info_parts info25
      clear hp hs hC hb hR hP ho0
      have hz : (Exit.inBlock 1 (bodyEnd (fun S pre W => PlInv (w.heap.size + 1) S (pre.map Prod.fst) W) (fun k => k = w.heap.size + 1 ∨ P k) n0 (pre ++ [(p, s)]) W)) = (Exit.inBlock 1 (bodyEnd (fun S pre W => PlInv (w.heap.size + 1) S (pre.map Prod.fst) W) (fun k => k = w.heap.size + 1 ∨ P k) n0 (pre ++ [(p, s)]) W)) := rfl
      clear hz
      -- behind the cell: the append and the store
      have hD : ∀ (w1 : World) (v : Value), (Kd.int .i64).R 3 w1 W.heap.size (fun _ => True) v p → Below W.heap.size W w1 → wpAnyIn (Fence.wide.inRound l) m Try.prog .any #[{ dst := some 9, op := Op.load 32 (Operand.tmp 3), type := 32, pos := "term.go:86", after := #[], guard := none }, { dst := some 10, op := Op.move (Operand.tmp 4), type := 25, pos := "term.go:86", after := #[], guard := none }, { dst := some 11, op := Op.call { callee := Callee.value (Operand.func 73), args := #[Operand.tmp 10], argTypes := #[25] }, type := 25, pos := "term.go:86", after := #[{ on := 1, ground := Ground.data }], guard := none }, { dst := some 12, op := Op.buildSlice 32 1 #[(0, Operand.tmp 11)], type := 32, pos := "term.go:86", after := #[{ on := 2, ground := Ground.data }], guard := none }, { dst := some 13, op := Op.call { callee := Callee.builtin Builtin.append, args := #[Operand.tmp 9, Operand.tmp 12], argTypes := #[32, 32] }, type := 32, pos := "term.go:86", after := #[{ on := 0, ground := Ground.data }, { on := 3, ground := Ground.data }, { on := 2, ground := Ground.chain }], guard := none }, { dst := none, op := Op.store 32 (Operand.tmp 3) (Operand.tmp 13), type := 0, pos := "term.go:86", after := #[{ on := 4, ground := Ground.data }, { on := 4, ground := Ground.chain }, { on := 0, ground := Ground.phase }, { on := 1, ground := Ground.phase }, { on := 2, ground := Ground.phase }, { on := 3, ground := Ground.phase }, { on := 4, ground := Ground.phase }], guard := none }] (Exit.inBlock 1 (bodyEnd (fun S pre W => PlInv (w.heap.size + 1) S (pre.map Prod.fst) W) (fun k => k = w.heap.size + 1 ∨ P k) n0 (pre ++ [(p, s)]) W)) 2 #[true, true, true, true, false, false] { tmps := #[.agg #[.int .i64 a0_0, .slice A0_1 l0_1.length c0_1], .pointer (some ⟨w.heap.size, 0, none⟩), .slice none 0 0, .pointer (some ⟨w.heap.size + 1, 0, none⟩), .slice A p.length c, .agg #[.int .i64 a0_0, .slice A0_1 l0_1.length c0_1], .func (.func 103) #[] #[.pointer (some ⟨w.heap.size + 1 + 1, 0, none⟩)], .slice A p.length c, .agg #[.int .i64 s.f0, .slice As s.f1.length cs], .slice Au pre.length cu, .slice A p.length c, v, .slice (some ⟨w1.heap.size, 0, none⟩) 1 1, undef, undef], defers := [] } (w1.alloc (.cells #[v] 25)) := by
        intro w1 v hv hbv
        have hR1 := Kd.R_mono (Kd.R_below (Kd.R_below hRz.out hbv) (below_alloc (Below.refl _ _) (.cells #[v] 25))) (ok' := fun k => P k ∨ W.heap.size ≤ k) (fun k hk => .inl hk)
        have hv1 := Kd.R_lower (Kd.R_mono (Kd.R_bound (Kd.R_below hv (below_alloc (Below.refl _ _) (.cells #[v] 25)))) (ok' := fun k => W.heap.size ≤ k) (fun k hk => hk.2.1)) (show w.heap.size + 1 + 1 ≤ W.heap.size from hW)
        have hb1 : (w1.alloc (.cells #[v] 25)).heap[w.heap.size + 1]? = some (.cells #[.slice Au pre.length cu] 32 (0, 0)) := blk_alloc (blk_below hbz.out hbv) _
        have hbv1 : Below W.heap.size W (w1.alloc (.cells #[v] 25)) := below_alloc hbv _
        have hsz1 : (w1.alloc (.cells #[v] 25)).heap.size = w1.heap.size + 1 := by simp
        have hN1 : (w1.alloc (.cells #[v] 25)).heap[w1.heap.size]? = some (.cells #[v] 25 (0, 0)) := heap_alloc_new _ _
        have hs1 := hbv.size
        generalize w1.alloc (.cells #[v] 25) = w2 at hR1 hv1 hb1 hbv1 hsz1 hN1 ⊢
        obtain ⟨Av, cv, rfl⟩ := Kd.R_slice hv1
        obtain ⟨h0, inner, ho, hr⟩ := hR1
        rw [List.length_map] at ho
        refine wpAnyIn_ready (rs := [4]) (by kernel_rfl) (by simp) (AllReadyIn.cons rfl (fun K hK => ?_) AllReadyIn.nil)
        refine stepIn_append_own_at rfl (.tmp 9) (.tmp 12) 32 rfl (w.heap.size + 1 + 1) 25 i0 (.slice none 0 0) 1 24 Try.underlying32 hi hz0 hz1 hz2 rfl (by decide) _ pre.length inner rfl ho ⟨w1.heap.size, 0, none⟩ 1 1 [.slice Av p.length cv] rfl rfl ?hnews (by intro u hu; simp at hu; subst hu; rfl) (by simp only [maxLen]; omega) (by omega) (by omega) ?_
        case hnews =>
          intro j u hu
          cases j with
          | zero =>
            simp at hu
            subst hu
            rw [add_plain]
            exact (blk_cell hN1 0).trans rfl
          | succ j => simp at hu
        intro v2 w3 ho2 hg hat
        have hat' : v2.ownBlock = (Value.slice Au pre.length cu).ownBlock ∨ ∃ b, v2.ownBlock = some b ∧ w2.heap.size ≤ b := hat.imp_right (fun h => ⟨_, h, Nat.le_refl _⟩)
        have hR3 := Kd.R_appended (d := Kd.slice 3 (Kd.int .i64)) (e := 25) (p := p) (cs := [.slice Av p.length cv]) (okp := fun k => W.heap.size ≤ k) h0 hr ⟨_, rfl, hv1⟩ (fun k hk => ⟨.inr hk, fun e => by have := own_lt hoz.out k e.symm; omega⟩) (fun k hk => .inr (by omega)) (by rw [List.length_map]; exact ho2) hg hat'
        obtain ⟨g', cap', rfl⟩ := ownsRow_succ ho2
        have hne : some (w.heap.size + 1) ≠ (Value.slice Au pre.length cu).ownBlock := fun e => by have := own_base hoz.out _ e.symm; omega
        have hb3 := blk_grown hb1 hg hne
        have hc3 : w3.cell? ⟨w.heap.size + 1, 0, none⟩ = some (.slice Au pre.length cu) := (blk_cell hb3 0).trans rfl
        have hf3 := blk_frozen hb3 0
        have hz1 := Aside0.mk hR3
        have hz2 := Aside0.mk hb3
        have hz3 := Aside0.mk hg
        have hz4 := Aside0.mk hbv1
        clear hR3 hb3 hg hbv1 hat hat' ho2 h0 hr hv1 hv ho hb1 hN1 hbv
        refine hK _ _ ?_
        refine wpAnyIn_ready (rs := [5]) (by kernel_rfl) (by simp) (AllReadyIn.cons rfl (fun K hK => ?_) AllReadyIn.nil)
        go_simp
        refine hK _ _ ?_
        refine wpAnyIn_done (by kernel_rfl) ?_ _
        have hk1 : Keeps W w3 (fun k => k = w.heap.size + 1 ∨ P k) := (Keeps.of_below hz4.out _).trans ⟨hz3.out.os, hz3.out.tape, hz3.out.output, hz3.out.size, fun k hk hn => hz3.out.block k hk (fun e => hn e.symm)⟩ (S' := fun k => (Value.slice Au pre.length cu).ownBlock = some k) (fun b hb => .inl (.inr (hRz.out.1 b hb)))
        obtain ⟨P', hP', hR4⟩ : ∃ P' : Nat → Prop, (∀ k, P' k → (P k ∨ W.heap.size ≤ k) ∧ w.heap.size + 1 + 1 ≤ k ∧ k < w3.heap.size ∧ ∃ q, q ∈ 25 :: (Kd.slice 3 (Kd.int .i64)).E ∧ ∃ cells, w3.heap[k]? = some (.cells cells q (0, 0))) ∧ (Kd.slice 3 (Kd.int .i64)).R 25 w3 (w.heap.size + 1 + 1) P' (.slice (some ⟨g', 0, none⟩) (pre.length + 1) cap') (pre.map Prod.fst ++ [p]) := ⟨_, fun k h => h, Kd.R_bound hz1.out⟩
        have hR5 := Kd.R_far (p := ⟨w.heap.size + 1, 0, none⟩) hR4 (fun k hk (e : k = w.heap.size + 1) => by have := (hP' k hk).2.1; omega) (.slice (some ⟨g', 0, none⟩) (pre.length + 1) cap')
        refine ⟨_, ⟨P', some ⟨g', 0, none⟩, cap', rfl, ?_, ?_, ?_⟩, hk1.trans (Keeps.setCell w3 _ _) (fun b h => .inl (.inl h)), ?_⟩
        rotate_left
        · simpa using hR5
        · intro k hk
          obtain ⟨h1, h2, h3, q, hq, cells, hc⟩ := hP' k hk
          refine ⟨by omega, q, cells, ?_⟩
          exact blk_far hc (p := ⟨w.heap.size + 1, 0, none⟩) (by show k ≠ w.heap.size + 1; omega) _
        · rintro k (hk | hk)
          · exact .inl (.inl hk)
          · rcases (hP' k hk).1 with h | h
            · exact .inl (.inr h)
            · exact .inr (by omega)
        · have := blk_put hz2.out 0 (.slice (some ⟨g', 0, none⟩) (pre.length + 1) cap') rfl
          simpa using this
      have hB : ∀ (w1 : World) (v : Value), (Kd.int .i64).R 3 w1 W.heap.size (fun _ => True) v p → Below W.heap.size W w1 → wpAnyIn (Fence.wide.inRound l) m Try.prog .any #[{ dst := some 9, op := Op.load 32 (Operand.tmp 3), type := 32, pos := "term.go:86", after := #[], guard := none }, { dst := some 10, op := Op.move (Operand.tmp 4), type := 25, pos := "term.go:86", after := #[], guard := none }, { dst := some 11, op := Op.call { callee := Callee.value (Operand.func 73), args := #[Operand.tmp 10], argTypes := #[25] }, type := 25, pos := "term.go:86", after := #[{ on := 1, ground := Ground.data }], guard := none }, { dst := some 12, op := Op.buildSlice 32 1 #[(0, Operand.tmp 11)], type := 32, pos := "term.go:86", after := #[{ on := 2, ground := Ground.data }], guard := none }, { dst := some 13, op := Op.call { callee := Callee.builtin Builtin.append, args := #[Operand.tmp 9, Operand.tmp 12], argTypes := #[32, 32] }, type := 32, pos := "term.go:86", after := #[{ on := 0, ground := Ground.data }, { on := 3, ground := Ground.data }, { on := 2, ground := Ground.chain }], guard := none }, { dst := none, op := Op.store 32 (Operand.tmp 3) (Operand.tmp 13), type := 0, pos := "term.go:86", after := #[{ on := 4, ground := Ground.data }, { on := 4, ground := Ground.chain }, { on := 0, ground := Ground.phase }, { on := 1, ground := Ground.phase }, { on := 2, ground := Ground.phase }, { on := 3, ground := Ground.phase }, { on := 4, ground := Ground.phase }], guard := none }] (Exit.inBlock 1 (bodyEnd (fun S pre W => PlInv (w.heap.size + 1) S (pre.map Prod.fst) W) (fun k => k = w.heap.size + 1 ∨ P k) n0 (pre ++ [(p, s)]) W)) 3 #[true, true, true, false, false, false] { tmps := #[.agg #[.int .i64 a0_0, .slice A0_1 l0_1.length c0_1], .pointer (some ⟨w.heap.size, 0, none⟩), .slice none 0 0, .pointer (some ⟨w.heap.size + 1, 0, none⟩), .slice A p.length c, .agg #[.int .i64 a0_0, .slice A0_1 l0_1.length c0_1], .func (.func 103) #[] #[.pointer (some ⟨w.heap.size + 1 + 1, 0, none⟩)], .slice A p.length c, .agg #[.int .i64 s.f0, .slice As s.f1.length cs], .slice Au pre.length cu, .slice A p.length c, v, undef, undef, undef], defers := [] } w1 := by
        intro w1 v hv hbv
        obtain ⟨Av, cv, rfl⟩ := Kd.R_slice hv
        refine wpAnyIn_ready (rs := [3]) (by kernel_rfl) (by simp) (AllReadyIn.cons rfl (fun K hK => ?_) AllReadyIn.nil)
        go_simp
        exact hK _ _ (hD w1 _ hv hbv)
      have hC01 : wpAnyIn (Fence.wide.inRound l) m Try.prog .any #[{ dst := some 9, op := Op.load 32 (Operand.tmp 3), type := 32, pos := "term.go:86", after := #[], guard := none }, { dst := some 10, op := Op.move (Operand.tmp 4), type := 25, pos := "term.go:86", after := #[], guard := none }, { dst := some 11, op := Op.call { callee := Callee.value (Operand.func 73), args := #[Operand.tmp 10], argTypes := #[25] }, type := 25, pos := "term.go:86", after := #[{ on := 1, ground := Ground.data }], guard := none }, { dst := some 12, op := Op.buildSlice 32 1 #[(0, Operand.tmp 11)], type := 32, pos := "term.go:86", after := #[{ on := 2, ground := Ground.data }], guard := none }, { dst := some 13, op := Op.call { callee := Callee.builtin Builtin.append, args := #[Operand.tmp 9, Operand.tmp 12], argTypes := #[32, 32] }, type := 32, pos := "term.go:86", after := #[{ on := 0, ground := Ground.data }, { on := 3, ground := Ground.data }, { on := 2, ground := Ground.chain }], guard := none }, { dst := none, op := Op.store 32 (Operand.tmp 3) (Operand.tmp 13), type := 0, pos := "term.go:86", after := #[{ on := 4, ground := Ground.data }, { on := 4, ground := Ground.chain }, { on := 0, ground := Ground.phase }, { on := 1, ground := Ground.phase }, { on := 2, ground := Ground.phase }, { on := 3, ground := Ground.phase }, { on := 4, ground := Ground.phase }], guard := none }] (Exit.inBlock 1 (bodyEnd (fun S pre W => PlInv (w.heap.size + 1) S (pre.map Prod.fst) W) (fun k => k = w.heap.size + 1 ∨ P k) n0 (pre ++ [(p, s)]) W)) 4 #[true, true, false, false, false, false] { tmps := #[.agg #[.int .i64 a0_0, .slice A0_1 l0_1.length c0_1], .pointer (some ⟨w.heap.size, 0, none⟩), .slice none 0 0, .pointer (some ⟨w.heap.size + 1, 0, none⟩), .slice A p.length c, .agg #[.int .i64 a0_0, .slice A0_1 l0_1.length c0_1], .func (.func 103) #[] #[.pointer (some ⟨w.heap.size + 1 + 1, 0, none⟩)], .slice A p.length c, .agg #[.int .i64 s.f0, .slice As s.f1.length cs], .slice Au pre.length cu, .slice A p.length c, undef, undef, undef, undef], defers := [] } W.drew := by
        refine wpAnyIn_ready (rs := [2]) (by kernel_rfl) (by simp) (AllReadyIn.cons rfl (fun K hK => ?_) AllReadyIn.nil)
        go_simp
        refine ⟨trivial, ?_⟩
        (try refine ⟨wide_any _, ?_⟩)
        gi_at_call 73
        refine (CallsIn.inRound l (callsIn_wide.2 (clone_ints A c p W.drew (Kd.C_below hCz.out (pw_below_drewN (Below.refl _ _) 1)) hpc hpl))).mono ?_
        rintro e w1 ⟨v, rfl, hv, hbv⟩
        go_simp
        exact hK _ _ (hB _ _ hv ((pw_below_drewN (Below.refl _ _) 1).trans hbv))
      gi_wp2
      refine wpIn_region_any hmx ?_
      change wpAnyIn _ _ _ _ _ _ _ _ _ (World.drew _)
      refine wpAnyIn_ready (rs := [0, 1]) (by kernel_rfl) (by simp) (AllReadyIn.cons rfl (fun K hK => ?_) (AllReadyIn.cons rfl (fun K hK => ?_) AllReadyIn.nil))
      · go_simp
        refine hK _ _ ?_
        refine wpAnyIn_ready (rs := [1]) (by kernel_rfl) (by simp) (AllReadyIn.cons rfl (fun K hK => ?_) AllReadyIn.nil)
        go_simp
        exact hK _ _ hC01
      · go_simp
        refine hK _ _ ?_
        refine wpAnyIn_ready (rs := [0, 2]) (by kernel_rfl) (by simp) (AllReadyIn.cons rfl (fun K hK => ?_) (AllReadyIn.cons rfl (fun K hK => ?_) AllReadyIn.nil))
        · go_simp
          exact hK _ _ hC01
        · go_simp
          refine ⟨trivial, ?_⟩
          (try refine ⟨wide_any _, ?_⟩)
          gi_at_call 73
          refine (CallsIn.inRound l (callsIn_wide.2 (clone_ints A c p W.drew (Kd.C_below hCz.out (pw_below_drewN (Below.refl _ _) 1)) hpc hpl))).mono ?_
          rintro e w1 ⟨v, rfl, hv, hbv⟩
          have hbv : Below W.heap.size W w1 := (pw_below_drewN (Below.refl _ _) 1).trans hbv
          obtain ⟨Av, cv, rfl⟩ := Kd.R_slice hv
          have hc1 : w1.cell? ⟨w.heap.size + 1, 0, none⟩ = some (.slice Au pre.length cu) := (blk_cell (blk_below hbz.out hbv) 0).trans rfl
          have hBz := Aside0.mk hB
          have hDz := Aside0.mk hD
          have hvz := Aside0.mk hv
          have hbvz := Aside0.mk hbv
          clear hB hD hv hbv
          go_simp
          refine hK _ _ ?_
          refine wpAnyIn_ready (rs := [0, 3]) (by kernel_rfl) (by simp) (AllReadyIn.cons rfl (fun K hK => ?_) (AllReadyIn.cons rfl (fun K hK => ?_) AllReadyIn.nil))
          · go_simp
            exact hK _ _ (hBz.out w1 _ hvz.out hbvz.out)
          · go_simp
            refine hK _ _ ?_
            have hc2 : (w1.alloc (.cells #[.slice Av p.length cv] 25)).cell? ⟨w.heap.size + 1, 0, none⟩ = some (.slice Au pre.length cu) := (blk_cell (blk_alloc (blk_below hbz.out hbvz.out) _) 0).trans rfl
            refine wpAnyIn_ready (rs := [0]) (by kernel_rfl) (by simp) (AllReadyIn.cons rfl (fun K hK => ?_) AllReadyIn.nil)
            go_simp
            exact hK _ _ (hDz.out w1 _ hvz.out hbvz.out)
    case done =>
      rintro D S' W' ⟨P, Au, cu, rfl, hb, hR, hP⟩ hk _ hD hle
      rw [List.length_map] at hb hR
      have hc0 : W'.cell? ⟨w.heap.size + 1, 0, none⟩ = some (.slice Au (flatP [] ⟨a0_0, l0_1⟩).length cu) := (blk_cell hb 0).trans rfl
      have hkz := Aside0.mk hk
      have hDz := Aside0.mk hD
      have hRz := Aside0.mk hR
      have hPz := Aside0.mk hP
      clear hk hD hb hR hP
      gi_wp2
      refine ⟨by simp, .inl ⟨_, _, rfl, run_takeDeferred hDz.out, ?_⟩⟩
      refine ⟨_, results_tmp rfl _ _ _, _, rfl, ?_, ?_⟩
      · refine Kd.R_mono (Kd.R_lower (Kd.R_step hRz.out (w1 := W'.putObj D (.deferred none)) (fun k hk _ => World.putObj_heap_other (fun e => ?_))) (show w.heap.size ≤ w.heap.size + 1 + 1 by omega)) (fun _ _ => trivial)
        subst e
        obtain ⟨_, q, cells, h3⟩ := hPz.out _ hk
        have h4 := hDz.out
        rw [h3] at h4
        cases h4
      · have h1 := hkz.out.toBelow hb2.size (fun b hb => hb.elim (fun h => by omega) False.elim)
        have h2 := hkz.out.size
        have h3 := hb2.size
        exact below_put (hb2.trans h1) (by omega) (by omega) _
  · rw [if_neg hM] at h
    cases h
end Go.Proofs.Ytpfddihcikiofaa.P
end

section
-- Laid by a program of this session (wip/tools) over the kit's printer: the functions' own text. Lean checks it.
namespace Go.Proofs.Ytpfddihcikiofaa.P
open Go.RowKit Go.Proofs.YtpfddihcikiofaaW.PrintWords Go.Proofs.YtpfddihcikiofaaW.PrintLast Go.Proofs.YtpfddihcikiofaaW.PrintMore
attribute [local go_sem] max2_int min2_int max_two min_two max_three min_three max_four min_four   -- for this text's walks alone
set_option linter.unusedVariables false
set_option linter.unusedSimpArgs false

/-! ### term_Top: function 33 -/
def term_Top.l0 : Nat → Int → List Int → Int → Int → Option (Int)
  | 0, _, _, _, _ => none
  | k + 1, x3, x7, x8, x9 => if x9 < x8 then (if 0 ≤ x9 then (if x9 < (x7.length : Int) then (term_Top.l0 k (mx x3 (rd x7 x9)) x7 x8 (wrap64 (x9 + 1))) else (none)) else (none)) else (some x3)
def term_Top.f (k : Nat) (a0_0 : Int) (l0_1 : List (S30)) : Option (Int) := (term_Vars.f a0_0 l0_1).bind fun t254 => (term_Top.l0 k (-1) t254 (t254.length : Int) 0)
theorem term_Top.mono_l : ∀ k, (∀ y0 y1 y2 y3, LeO (term_Top.l0 k y0 y1 y2 y3) (term_Top.l0 (k + 1) y0 y1 y2 y3))
  | 0 => fun _ _ _ _ r h => by simp [term_Top.l0] at h
  | k + 1 => by
    have ih0 := term_Top.mono_l k
    · intro y0 y1 y2 y3
      unfold term_Top.l0
      repeat' first
      | (with_reducible exact ih0 _ _ _ _)
      | (with_reducible exact LeO.refl _)
      | (with_reducible exact LeO.none _)
      | (with_reducible refine LeO.ite ?_ ?_)
      | (with_reducible refine LeO.bind ?_ (fun _ => ?_))
      | exact ih0 _ _ _ _
      | exact LeO.none _
      | refine LeO.ite ?_ ?_
      | refine LeO.bind ?_ (fun _ => ?_)
theorem term_Top.mono : ∀ a0 a1 k, LeO (term_Top.f k a0 a1) (term_Top.f (k + 1) a0 a1) := by
  intro a0 a1 k
  have ih0 := term_Top.mono_l k
  unfold term_Top.f
  repeat' first
      | (with_reducible exact ih0 _ _ _ _)
      | (with_reducible exact LeO.refl _)
      | (with_reducible exact LeO.none _)
      | (with_reducible refine LeO.ite ?_ ?_)
      | (with_reducible refine LeO.bind ?_ (fun _ => ?_))
      | exact ih0 _ _ _ _
      | exact LeO.none _
      | refine LeO.ite ?_ ?_
      | refine LeO.bind ?_ (fun _ => ?_)
set_option maxHeartbeats 8000000 in
set_option maxRecDepth 100000 in
theorem term_Top.calls (k : Nat) (a0_0 : Int) (A0_1 : Option Addr) (c0_1 : Nat) (l0_1 : List (S30)) (r : Int) (w : World) (hr0_1 : Kd.C k30 w A0_1 l0_1.length l0_1) (hc0_1 : l0_1.length ≤ c0_1) (h : term_Top.f k a0_0 l0_1 = some r) :
    Calls Try.prog 33 #[.agg #[.int .i64 a0_0, .slice A0_1 l0_1.length c0_1]] w fun e w' => e = .returned (.int .i64 r) ∧ Below w.heap.size w w' := by
  have hu30 := Try.underlying30
  have HR0_1 := Aside0.mk hr0_1
  have HC0_1 := Aside0.mk hc0_1
  clear hr0_1 hc0_1
  have HB := Aside0.mk (Below.refl w.heap.size w)
  have H : ((term_Vars.f a0_0 l0_1).bind fun t254 => (term_Top.l0 k (-1) t254 (t254.length : Int) 0)) = some r := h
  clear h
  replace H := Option.bind_eq_some_iff.mp H
  obtain ⟨t254, A20, H⟩ := H
  replace H : (term_Top.l0 k (-1) t254 (t254.length : Int) 0) = some r := H
  have A2 := Aside0.mk A20
  clear A20
  have H' := Aside0.mk H
  clear H
  go_enter Try.func33, Try.ntmps33
  go_wp2_with (first | ((with_reducible refine gate_dst (N := 1) rfl ?_); refine box_event ?hg (N := 1) ?hd (cs := #[.int .i64 a0_0, .slice A0_1 l0_1.length c0_1]) (t := 30) ?hr ?_; (case hd => rfl); (case hg => rfl); (case hr => first | (go_simp; done) | (go_simp; rfl)); intro gb253 hg w3 hbox hb; have n0_ := Aside0.mk (below_step (by repeat (first | (with_reducible first | exact HB.out | apply below_alloc | apply pw_below_drewN | apply below_drew1) | exact HB.out)) hb); have n1_ := Aside0.mk (hbox); have n2_ := Aside0.mk ((by rw [hg]; exact (below_size (by repeat (first | (with_reducible first | exact HB.out | apply below_alloc | apply pw_below_drewN | apply below_drew1) | exact HB.out))) : w.heap.size ≤ gb253)); have n3_ := Aside0.mk ((by rw [hg]; exact (below_size (by repeat (first | (with_reducible first | exact HB.out | apply below_alloc | apply pw_below_drewN | apply below_drew1) | exact HB.out))) : w.heap.size ≤ gb253)); clear HB; have HB := n0_; have BK253 := n1_; have GW253 := n2_; have GE253 := n3_; clear n0_ n1_ n2_ n3_; clear hb hbox hg; have hcz4_0 : w3.cell? ⟨gb253, 0, none⟩ = some (.int .i64 a0_0) := (blk_cell BK253.out 0).trans rfl; have hcz4_1 : w3.cell? ⟨gb253, 1, none⟩ = some (.slice A0_1 l0_1.length c0_1) := (blk_cell BK253.out 1).trans rfl; have hfz4_0 := blk_frozen BK253.out 0; have hfz4_1 := blk_frozen BK253.out 1) | ((with_reducible refine gate_callee (f := 32) rfl ?_); refine goesL_ (some 7) rfl rfl Try.func32 (by kernel_rfl) rfl #[.agg #[.int .i64 a0_0, .slice A0_1 l0_1.length c0_1]] rfl (by (try simp only [List.map_toArray, List.map_cons, List.map_nil]); first | done | rfl | (simp only [List.length_drop, List.length_take]; rfl)) ?_; (with_reducible refine (term_Vars.calls a0_0 _ _ l0_1 t254 _ ?side1 ?side2 A2.out).mono ?_); (case side1 => repeat (first | exact (Kd.C_below HR0_1.out HB.out) | (with_reducible refine Kd.C_alloc ?_ _) | (with_reducible refine Kd.C_drewN ?_ _) | (with_reducible refine Kd.C_drew ?_))); (case side2 => exact HC0_1.out); rintro e w5 ⟨v255, rfl, ho0, hb⟩; refine ⟨_, rfl, ?_⟩; have n0_ := Aside0.mk (Kd.R_lower ho0 (below_size (by repeat (first | (with_reducible first | exact HB.out | apply below_alloc | apply pw_below_drewN | apply below_drew1 | refine below_set ?_ GE253.out) | exact HB.out)))); have n1_ := Aside0.mk (blk_below (g := gb253) (o := .cells #[.int .i64 a0_0, .slice A0_1 l0_1.length c0_1] 30 (0, 0)) (by (with_reducible repeat (first | refine blk_drewN ?_ _ | refine blk_drew ?_ | refine blk_alloc ?_ _)); exact BK253.out) hb); have n2_ := Aside0.mk (below_step (by repeat (first | (with_reducible first | exact HB.out | apply below_alloc | apply pw_below_drewN | apply below_drew1 | refine below_set ?_ GE253.out) | exact HB.out)) hb); clear BK253; clear HB; have HO256 := n0_; have BK253 := n1_; have HB := n2_; clear n0_ n1_ n2_; (try clear hb); (try clear hb2); (try clear hk); (try clear hi); (try clear ho0); obtain ⟨Ao6, co6, eo6⟩ := Kd.R_slice HO256.out; subst eo6))
  go_loopg [3, 9] k (fun kq v3 v9 w' => ∃ (x3_1 : Int) (x9_1 : Int), v3 = .int .i64 x3_1 ∧ v9 = .int .i64 x9_1 ∧ Aside0 (term_Top.l0 kq x3_1 t254 (t254.length : Int) x9_1 = some r) ∧ Aside0 (kq ≤ k) ∧ Aside0 (Kd.R (Kd.int .i64) 3 w' w.heap.size (fun _ => True) (.slice Ao6 t254.length co6) t254) ∧ Aside0 (w'.heap[gb253]? = some (.cells #[.int .i64 a0_0, (.slice A0_1 l0_1.length c0_1)] 30 (0, 0))) ∧ Aside0 (Below w.heap.size w w'))
  case atStart => exact ⟨((-1)), (0), (by first | rfl | (simp; done) | (simp [*]; done)), (by first | rfl | (simp; done) | (simp [*]; done)), H', ⟨Nat.le_refl _⟩, ⟨by (with_reducible repeat (first | apply Kd.R_alloc | apply Kd.R_drewN | apply Kd.R_drew)); exact HO256.out⟩, ⟨by (with_reducible repeat (first | refine blk_drewN ?_ _ | refine blk_drew ?_ | refine blk_alloc ?_ _)); exact BK253.out⟩, ⟨by repeat (first | (with_reducible first | exact HB.out | apply below_alloc | apply pw_below_drewN | apply below_drew1 | refine below_set ?_ GE253.out) | exact HB.out)⟩⟩
  case round =>
    clear H'
    try clear p2
    try clear c3
    try clear hcz4_0
    try clear hcz4_1
    try clear hfz4_0
    try clear hfz4_1
    obtain ⟨x3_1, x9_1, rfl, rfl, HA, HK1, HO_7, BK253, HB⟩ := hrel
    cases gk with
    | zero => exact absurd HA.out (by simp [term_Top.l0])
    | succ k1 =>
      have H := HA.out
      clear HA
      simp only [term_Top.l0] at H
      by_cases c7 : x9_1 < (t254.length : Int)
      · rw [if_pos c7] at H
        have c7b0 : decide (x9_1 < (t254.length : Int)) = true := decide_eq_true c7
        clear c7
        by_cases c8 : 0 ≤ x9_1
        · rw [if_pos c8] at H
          have c8b0 : decide (0 ≤ x9_1) = true := decide_eq_true c8
          clear c8
          by_cases c9 : x9_1 < (t254.length : Int)
          · rw [if_pos c9] at H
            have c9b0 : decide (x9_1 < (t254.length : Int)) = true := decide_eq_true c9
            clear c9
            obtain ⟨ji10, hji10⟩ : ∃ j_ : Int, (mx x3_1 (rd t254 x9_1)) = j_ := ⟨_, rfl⟩
            replace H : (term_Top.l0 k1 ji10 t254 (t254.length : Int) (wrap64 (x9_1 + 1))) = some r := by first | (rw [hji10] at H; exact H) | (simp only [hji10] at H ⊢; exact H)
            have hji10_ : (if x3_1 < (rd t254 x9_1) then (rd t254 x9_1) else x3_1) = ji10 := hji10
            have H' := Aside0.mk H
            clear H
            have p257 : 0 ≤ (x9_1 : Int) := of_decide_eq_true (by first | (with_reducible assumption) | assumption)
            have q257 : x9_1 < (t254.length : Int) := of_decide_eq_true (by first | (with_reducible assumption) | assumption)
            obtain ⟨ad257, e257, hx257_0⟩ := Kd.at_int (Kd.R_reads' HO_7.out).2.2 x9_1 p257 q257
            cases e257
            replace p257 := eq_true p257
            replace q257 := eq_true q257
            go_wp2
            go_roundg k1
            case measure => have := HK1.out; omega
            case rel => exact ⟨(ji10), (wrap64 (x9_1 + 1)), (by first | rfl | (simp; done) | (simp only [← hji10] <;> (first | rfl | simp)) | (simp [*]; done)), (by first | rfl | (simp; done) | (simp [*]; done)), H', ⟨by have := HK1.out; omega⟩, ⟨by (with_reducible repeat (first | apply Kd.R_alloc | apply Kd.R_drewN | apply Kd.R_drew)); exact HO_7.out⟩, ⟨by (with_reducible repeat (first | refine blk_drewN ?_ _ | refine blk_drew ?_ | refine blk_alloc ?_ _)); exact BK253.out⟩, ⟨by repeat (first | (with_reducible first | exact HB.out | apply below_alloc | apply pw_below_drewN | apply below_drew1 | refine below_set ?_ GE253.out) | exact HB.out)⟩⟩
          · rw [if_neg c9] at H
            exact absurd H (by simp)
        · rw [if_neg c8] at H
          exact absurd H (by simp)
      · rw [if_neg c7] at H
        have c7b0 : decide (x9_1 < (t254.length : Int)) = false := decide_eq_false c7
        clear c7
        obtain rfl := Option.some.inj H
        go_wp2
        go_ret
        exact ⟨by first | rfl | (simp [errW_none, errW_some] <;> rfl) | (simp [*, errW_none, errW_some] <;> rfl), by repeat (first | (with_reducible first | exact HB.out | apply below_alloc | apply pw_below_drewN | apply below_drew1 | refine below_set ?_ GE253.out) | exact HB.out)⟩

end Go.Proofs.Ytpfddihcikiofaa.P
end

section
-- Laid by a program of this session (wip/tools) over the kit's printer: the functions' own text. Lean checks it.
namespace Go.Proofs.Ytpfddihcikiofaa.P
open Go.RowKit Go.Proofs.YtpfddihcikiofaaW.PrintWords Go.Proofs.YtpfddihcikiofaaW.PrintLast Go.Proofs.YtpfddihcikiofaaW.PrintMore
attribute [local go_sem] max2_int min2_int max_two min_two max_three min_three max_four min_four   -- for this text's walks alone
set_option linter.unusedVariables false
set_option linter.unusedSimpArgs false

/-! ### soriteslaw06_alive: function 20 -/
def soriteslaw06_alive.f  : Option (Bool) := (some (([(⟨(-1), ([] : List (S30))⟩ : S30), (⟨2, ([] : List (S30))⟩ : S30)] : List (S30)) : List (S30))).bind fun y101 => ((term_Places.f 1 y101).bind fun t105 => (if (t105.length : Int) = 3 then (if 0 < (t105.length : Int) then (if ((rd_L2 t105 0).length : Int) = 0 then (if 2 < (t105.length : Int) then (if 0 < ((rd_L2 t105 2).length : Int) then (if (rd (rd_L2 t105 2) 0) = 1 then ((term_Size.f 1 y101).bind fun t111 => (some (t111 == 3))) else (some false)) else (none)) else (none)) else (some false)) else (none)) else (some false)))
set_option maxHeartbeats 8000000 in
set_option maxRecDepth 100000 in
theorem soriteslaw06_alive.calls  (r : Bool) (w : World) (h : soriteslaw06_alive.f  = some r) :
    Calls Try.prog 20 #[] w fun e w' => e = .returned (.bool r) ∧ Below w.heap.size w w' := by
  have hu30 := Try.underlying30
  have HB := Aside0.mk (Below.refl w.heap.size w)
  have H : ((some (([(⟨(-1), ([] : List (S30))⟩ : S30), (⟨2, ([] : List (S30))⟩ : S30)] : List (S30)) : List (S30))).bind fun y101 => ((term_Places.f 1 y101).bind fun t105 => (if (t105.length : Int) = 3 then (if 0 < (t105.length : Int) then (if ((rd_L2 t105 0).length : Int) = 0 then (if 2 < (t105.length : Int) then (if 0 < ((rd_L2 t105 2).length : Int) then (if (rd (rd_L2 t105 2) 0) = 1 then ((term_Size.f 1 y101).bind fun t111 => (some (t111 == 3))) else (some false)) else (none)) else (none)) else (some false)) else (none)) else (some false)))) = some r := h
  clear h
  obtain ⟨y101, hy101⟩ : ∃ y_ : List (S30), y_ = (([(⟨(-1), ([] : List (S30))⟩ : S30), (⟨2, ([] : List (S30))⟩ : S30)] : List (S30))) := ⟨_, rfl⟩
  replace H : ((term_Places.f 1 y101).bind fun t105 => (if (t105.length : Int) = 3 then (if 0 < (t105.length : Int) then (if ((rd_L2 t105 0).length : Int) = 0 then (if 2 < (t105.length : Int) then (if 0 < ((rd_L2 t105 2).length : Int) then (if (rd (rd_L2 t105 2) 0) = 1 then ((term_Size.f 1 y101).bind fun t111 => (some (t111 == 3))) else (some false)) else (none)) else (none)) else (some false)) else (none)) else (some false))) = some r := by first | (rw [hy101]; with_reducible exact H) | (have H2_ := (Option.bind_some _ _).symm.trans H; rw [hy101]; with_reducible exact H2_) | (have H2_ := (Option.bind_some _ _).symm.trans H; with_reducible exact H2_) | with_reducible exact H | (rw [hy101]; exact H) | exact H
  have Ny101 := Aside0.mk hy101
  clear hy101
  replace H := Option.bind_eq_some_iff.mp H
  obtain ⟨t105, A10, H⟩ := H
  replace H : (if (t105.length : Int) = 3 then (if 0 < (t105.length : Int) then (if ((rd_L2 t105 0).length : Int) = 0 then (if 2 < (t105.length : Int) then (if 0 < ((rd_L2 t105 2).length : Int) then (if (rd (rd_L2 t105 2) 0) = 1 then ((term_Size.f 1 y101).bind fun t111 => (some (t111 == 3))) else (some false)) else (none)) else (none)) else (some false)) else (none)) else (some false)) = some r := H
  have A1 := Aside0.mk A10
  clear A10
  by_cases c2 : (t105.length : Int) = 3
  · rw [if_pos c2] at H
    have c2b0 : ((t105.length : Int) == 3) = true := beq_iff_eq.mpr c2
    have c2b1 : ((t105.length : Int) != 3) = false := bne_eq_false_iff_eq.mpr c2
    clear c2
    by_cases c3 : 0 < (t105.length : Int)
    · rw [if_pos c3] at H
      have c3b0 : decide (0 < (t105.length : Int)) = true := decide_eq_true c3
      have c3b1 : decide (0 < t105.length) = true := decide_eq_true (by omega)
      clear c3
      by_cases c4 : ((rd_L2 t105 0).length : Int) = 0
      · rw [if_pos c4] at H
        have c4b0 : (((rd_L2 t105 0).length : Int) == 0) = true := beq_iff_eq.mpr c4
        have c4b1 : (((rd_L2 t105 0).length : Int) != 0) = false := bne_eq_false_iff_eq.mpr c4
        clear c4
        by_cases c5 : 2 < (t105.length : Int)
        · rw [if_pos c5] at H
          have c5b0 : decide (2 < (t105.length : Int)) = true := decide_eq_true c5
          have c5b1 : decide (2 < t105.length) = true := decide_eq_true (by omega)
          clear c5
          by_cases c6 : 0 < ((rd_L2 t105 2).length : Int)
          · rw [if_pos c6] at H
            have c6b0 : decide (0 < ((rd_L2 t105 2).length : Int)) = true := decide_eq_true c6
            have c6b1 : decide (0 < (rd_L2 t105 2).length) = true := decide_eq_true (by omega)
            clear c6
            by_cases c7 : (rd (rd_L2 t105 2) 0) = 1
            · rw [if_pos c7] at H
              have c7b0 : ((rd (rd_L2 t105 2) 0) == 1) = true := beq_iff_eq.mpr c7
              have c7b1 : ((rd (rd_L2 t105 2) 0) != 1) = false := bne_eq_false_iff_eq.mpr c7
              clear c7
              replace H := Option.bind_eq_some_iff.mp H
              obtain ⟨t111, A80, H⟩ := H
              replace H : (some (t111 == 3)) = some r := H
              have A8 := Aside0.mk A80
              clear A80
              obtain rfl := Option.some.inj H
              go_enter Try.func20, Try.ntmps20
              go_wp2_with (first | ((with_reducible refine gate_dst (N := 5) rfl ?_); (try (refine gate_guard (by rfl) ?_; dsimp only)); refine Kd.R_lit k30 _ 30 ?hg (N := 5) ?hd (xs := ([(⟨(-1), ([] : List (S30))⟩ : S30), (⟨2, ([] : List (S30))⟩ : S30)] : List (S30))) (inner := [.int .i64 (-1), .slice none 0 0, .int .i64 2, .slice none 0 0]) (ok := fun _ => True) (okp := fun _ => True) ?hr ?hp (fun _ hk => hk) trivial (Below.refl _ _) (Nat.le_refl _) (by simp) ?_; (case hd => rfl); (case hg => rfl); (case hr => first | (go_simp; done) | (go_simp; rfl)); (case hp => exact (Reps.c2 (show Kd.M k30 _ _ _ (⟨(-1), ([] : List (S30))⟩ : S30) [.int .i64 (-1), .slice none 0 0] from (k30_mkM _ _ _ (⟨(-1), ([] : List (S30))⟩ : S30) (Kd.R_nil _ _ _ _ _))) (Reps.c2 (show Kd.M k30 _ _ _ (⟨2, ([] : List (S30))⟩ : S30) [.int .i64 2, .slice none 0 0] from (k30_mkM _ _ _ (⟨2, ([] : List (S30))⟩ : S30) (Kd.R_nil _ _ _ _ _))) (Reps.none _ _)))); intro v102 w9 ho10 hb hg_ hnew_; clear hg_ hnew_; (first | rw [← Ny101.out] at ho10 | (simp only [Int.reduceToNat] at ho10; rw [← Ny101.out] at ho10)); have n0_ := Aside0.mk (Kd.R_lower ho10 (below_size (by repeat (first | (with_reducible first | exact HB.out | apply below_alloc | apply pw_below_drewN | apply below_drew1) | exact HB.out)))); have n1_ := Aside0.mk (below_step (by repeat (first | (with_reducible first | exact HB.out | apply below_alloc | apply pw_below_drewN | apply below_drew1) | exact HB.out)) hb); clear HB; have HO103 := n0_; have HB := n1_; clear n0_ n1_; clear hb ho10; obtain ⟨Ao11, co11, eo11⟩ := Kd.R_slice HO103.out; subst eo11) | ((with_reducible refine gate_dst (N := 1) rfl ?_); (try (refine gate_guard (by rfl) ?_; dsimp only)); refine box_event ?hg (N := 1) ?hd (cs := #[.int .i64 0, .slice none 0 0]) (t := 30) ?hr ?_; (case hd => rfl); (case hg => rfl); (case hr => first | (go_simp; done) | (go_simp; rfl)); intro gb104 hg w12 hbox hb; have n0_ := Aside0.mk (Kd.R_below (Kd.R_elderB (by (with_reducible repeat (first | apply Kd.R_alloc | apply Kd.R_drewN | apply Kd.R_drew)); exact HO103.out) gb104 (Nat.le_of_eq hg.symm)) hb); have n1_ := Aside0.mk (below_step (by repeat (first | (with_reducible first | exact HB.out | apply below_alloc | apply pw_below_drewN | apply below_drew1) | exact HB.out)) hb); have n2_ := Aside0.mk (hbox); have n3_ := Aside0.mk ((by rw [hg]; exact (below_size (by repeat (first | (with_reducible first | exact HB.out | apply below_alloc | apply pw_below_drewN | apply below_drew1) | exact HB.out))) : w.heap.size ≤ gb104)); have n4_ := Aside0.mk ((by rw [hg]; exact (below_size (by repeat (first | (with_reducible first | exact HB.out | apply below_alloc | apply pw_below_drewN | apply below_drew1) | exact HB.out))) : w.heap.size ≤ gb104)); clear HO103; clear HB; have HO103 := n0_; have HB := n1_; have BK104 := n2_; have GW104 := n3_; have GE104 := n4_; clear n0_ n1_ n2_ n3_ n4_; clear hb hbox hg; have hcz13_0 : w12.cell? ⟨gb104, 0, none⟩ = some (.int .i64 0) := (blk_cell BK104.out 0).trans rfl; have hcz13_1 : w12.cell? ⟨gb104, 1, none⟩ = some (.slice none 0 0) := (blk_cell BK104.out 1).trans rfl; have hfz13_0 := blk_frozen BK104.out 0; have hfz13_1 := blk_frozen BK104.out 1) | (go_at_call 23; (with_reducible refine (term_Places.calls 1 _ _ y101 t105 _ ?side1 ?side2 A1.out).mono ?_); (case side1 => refine (Kd.R_reads' (e := 30) (base := w.heap.size) (ok := fun k_ => (True ∧ k_ ≠ gb104)) (n := y101.length) (c := co11) ?_).2.2; exact (by (with_reducible repeat (first | apply Kd.R_alloc | apply Kd.R_drewN | apply Kd.R_drew)); exact (Kd.R_mono (Kd.R_far (p := ⟨gb104, 1, none⟩) (Kd.R_far (p := ⟨gb104, 0, none⟩) (Kd.R_mono HO103.out (fun k_ hk => (⟨hk, hk.2⟩ : _ ∧ k_ ≠ gb104))) (fun _ hk => hk.2) (.int .i64 1)) (fun _ hk => hk.2) (.slice Ao11 y101.length co11)) (fun _ h_ => h_.1)))); (case side2 => exact (Kd.R_reads' HO103.out).2.1); rintro e w14 ⟨v106, rfl, ho0, hb⟩; have n0_ := Aside0.mk (Kd.R_below (by (with_reducible repeat (first | apply Kd.R_alloc | apply Kd.R_drewN | apply Kd.R_drew)); exact (Kd.R_mono (Kd.R_far (p := ⟨gb104, 1, none⟩) (Kd.R_far (p := ⟨gb104, 0, none⟩) (Kd.R_mono HO103.out (fun k_ hk => (⟨hk, hk.2⟩ : _ ∧ k_ ≠ gb104))) (fun _ hk => hk.2) (.int .i64 1)) (fun _ hk => hk.2) (.slice Ao11 y101.length co11)) (fun _ h_ => h_.1))) hb); have n1_ := Aside0.mk (Kd.R_lower ho0 (below_size (by repeat (first | (with_reducible first | exact HB.out | apply below_alloc | apply pw_below_drewN | apply below_drew1 | refine below_set ?_ GE104.out) | exact HB.out)))); have n2_ := Aside0.mk (blk_below (g := gb104) (o := .cells #[.int .i64 1, .slice Ao11 y101.length co11] 30 (0, 0)) (by (with_reducible repeat (first | refine blk_drewN ?_ _ | refine blk_drew ?_ | refine blk_alloc ?_ _)); refine blk_put (cs := #[.int .i64 1, .slice none 0 0]) ?_ 1 _ rfl; (with_reducible repeat (first | refine blk_drewN ?_ _ | refine blk_drew ?_ | refine blk_alloc ?_ _)); refine blk_put (cs := #[.int .i64 0, .slice none 0 0]) ?_ 0 _ rfl; (with_reducible repeat (first | refine blk_drewN ?_ _ | refine blk_drew ?_ | refine blk_alloc ?_ _)); exact BK104.out) hb); have n3_ := Aside0.mk (below_step (by repeat (first | (with_reducible first | exact HB.out | apply below_alloc | apply pw_below_drewN | apply below_drew1 | refine below_set ?_ GE104.out) | exact HB.out)) hb); clear HO103; clear BK104; clear HB; have HO103 := n0_; have HO107 := n1_; have BK104 := n2_; have HB := n3_; clear n0_ n1_ n2_ n3_; (try clear hb); (try clear hb2); (try clear hk); (try clear hi); (try clear ho0); obtain ⟨Ao15, co15, eo15⟩ := Kd.R_slice HO107.out; subst eo15; have p108 : 0 ≤ (0 : Int) := (by omega); have q108 : 0 < (t105.length : Int) := of_decide_eq_true (by first | (with_reducible assumption) | assumption); obtain ⟨ad108, A108_0, c108_0, e108, hx108_0, hl108_0, hi108_0⟩ := at_L2 (Kd.R_reads' HO107.out).2.2 0 p108 q108; cases e108; obtain ⟨ce108, hce108, hMe108, hcc108⟩ := Kd.R_get HO107.out [] 0 p108 (by first | exact q108 | exact of_decide_eq_true (by first | (with_reducible assumption) | assumption) | (have e_ := (Kd.R_reads' HO107.out).1; omega)); obtain ⟨ve108_0, rfl, ge108_0⟩ := hMe108; have hv108_0 := hcc108 0 _ rfl; rw [Nat.add_zero, show ((Kd.slice 3 (Kd.int .i64))).sz = 1 from rfl, Nat.mul_one] at hv108_0; replace hv108_0 := Option.some.inj (hv108_0.symm.trans hx108_0); rw [hv108_0] at ge108_0; have HL108_0 := Aside0.mk (show Kd.R (Kd.int .i64) 3 _ _ _ _ (rd_L2 t105 0) from ge108_0); clear hv108_0 ge108_0; clear hcc108 hce108; have qi108 : (0 < t105.length) = True := eq_true (by omega); (try rw [show ((0 : Int)).toNat = 0 from rfl] at hx108_0); (try rw [Addr.add_zero'] at hx108_0); have HR108_0 := Aside0.mk hi108_0; have HC108_0 := Aside0.mk hl108_0; clear hi108_0 hl108_0; replace p108 := eq_true p108; replace q108 := eq_true q108; have p109 : 0 ≤ (2 : Int) := (by omega); have q109 : 2 < (t105.length : Int) := of_decide_eq_true (by first | (with_reducible assumption) | assumption); obtain ⟨ad109, A109_0, c109_0, e109, hx109_0, hl109_0, hi109_0⟩ := at_L2 (Kd.R_reads' HO107.out).2.2 2 p109 q109; obtain rfl : ad108 = ad109 := (by injection e109); obtain ⟨ce109, hce109, hMe109, hcc109⟩ := Kd.R_get HO107.out [] 2 p109 (by first | exact q109 | exact of_decide_eq_true (by first | (with_reducible assumption) | assumption) | (have e_ := (Kd.R_reads' HO107.out).1; omega)); obtain ⟨ve109_0, rfl, ge109_0⟩ := hMe109; have hv109_0 := hcc109 0 _ rfl; rw [Nat.add_zero, show ((Kd.slice 3 (Kd.int .i64))).sz = 1 from rfl, Nat.mul_one] at hv109_0; replace hv109_0 := Option.some.inj (hv109_0.symm.trans hx109_0); rw [hv109_0] at ge109_0; have HL109_0 := Aside0.mk (show Kd.R (Kd.int .i64) 3 _ _ _ _ (rd_L2 t105 2) from ge109_0); clear hv109_0 ge109_0; clear hcc109 hce109; (try simp only [show (2 : Int).toNat = 2 from rfl, Nat.reduceMul, Nat.reduceEqDiff, Go.Addr.add, ↓reduceIte] at hx109_0); have qi109 : (2 < t105.length) = True := eq_true (by omega); (try rw [show ((2 : Int)).toNat = 2 from rfl] at hx109_0); have HR109_0 := Aside0.mk hi109_0; have HC109_0 := Aside0.mk hl109_0; clear hi109_0 hl109_0; replace p109 := eq_true p109; replace q109 := eq_true q109; have p110 : 0 ≤ (0 : Int) := (by omega); have q110 : 0 < ((rd_L2 t105 2).length : Int) := of_decide_eq_true (by first | (with_reducible assumption) | assumption); obtain ⟨ad110, e110, hx110_0⟩ := Kd.at_int (by repeat (first | (with_reducible exact HR109_0.out) | (with_reducible refine Kd.C_alloc ?_ _) | (with_reducible refine Kd.C_drewN ?_ _) | (with_reducible refine Kd.C_drew ?_) | exact HR109_0.out)) 0 p110 q110; cases e110; have qi110 : (0 < (rd_L2 t105 2).length) = True := eq_true (by omega); (try rw [show ((0 : Int)).toNat = 0 from rfl] at hx110_0); (try rw [Addr.add_zero'] at hx110_0); replace p110 := eq_true p110; replace q110 := eq_true q110; have hcz16_0 : w14.cell? ⟨gb104, 0, none⟩ = some (.int .i64 1) := (blk_cell BK104.out 0).trans rfl; have hcz16_1 : w14.cell? ⟨gb104, 1, none⟩ = some (.slice Ao11 y101.length co11) := (blk_cell BK104.out 1).trans rfl; have hfz16_0 := blk_frozen BK104.out 0; have hfz16_1 := blk_frozen BK104.out 1) | (go_at_call 34; (with_reducible refine (term_Size.calls 1 _ _ y101 t111 _ ?side1 ?side2 A8.out).mono ?_); (case side1 => repeat (first | exact (Kd.R_reads' HO103.out).2.2 | (with_reducible refine Kd.C_alloc ?_ _) | (with_reducible refine Kd.C_drewN ?_ _) | (with_reducible refine Kd.C_drew ?_))); (case side2 => exact (Kd.R_reads' HO103.out).2.1); rintro e w17 ⟨rfl, hb⟩; have n0_ := Aside0.mk (Kd.R_below (by (with_reducible repeat (first | apply Kd.R_alloc | apply Kd.R_drewN | apply Kd.R_drew)); exact HO103.out) hb); have n1_ := Aside0.mk (Kd.R_below (by (with_reducible repeat (first | apply Kd.R_alloc | apply Kd.R_drewN | apply Kd.R_drew)); exact HO107.out) hb); have n2_ := Aside0.mk (Kd.R_below (by (with_reducible repeat (first | apply Kd.R_alloc | apply Kd.R_drewN | apply Kd.R_drew)); exact HL108_0.out) hb); have n3_ := Aside0.mk (Kd.R_below (by (with_reducible repeat (first | apply Kd.R_alloc | apply Kd.R_drewN | apply Kd.R_drew)); exact HL109_0.out) hb); have n4_ := Aside0.mk (blk_below (g := gb104) (o := .cells #[.int .i64 1, .slice Ao11 y101.length co11] 30 (0, 0)) (by (with_reducible repeat (first | refine blk_drewN ?_ _ | refine blk_drew ?_ | refine blk_alloc ?_ _)); exact BK104.out) hb); have n5_ := Aside0.mk (Kd.C_below (by repeat (first | (with_reducible exact HR108_0.out) | (with_reducible refine Kd.C_alloc ?_ _) | (with_reducible refine Kd.C_drewN ?_ _) | (with_reducible refine Kd.C_drew ?_) | exact HR108_0.out)) hb); have n6_ := Aside0.mk (Kd.C_below (by repeat (first | (with_reducible exact HR109_0.out) | (with_reducible refine Kd.C_alloc ?_ _) | (with_reducible refine Kd.C_drewN ?_ _) | (with_reducible refine Kd.C_drew ?_) | exact HR109_0.out)) hb); have n7_ := Aside0.mk (below_step (by repeat (first | (with_reducible first | exact HB.out | apply below_alloc | apply pw_below_drewN | apply below_drew1 | refine below_set ?_ GE104.out) | exact HB.out)) hb); clear HO103; clear HO107; clear HL108_0; clear HL109_0; clear BK104; clear HR108_0; clear HR109_0; clear HB; have HO103 := n0_; have HO107 := n1_; have HL108_0 := n2_; have HL109_0 := n3_; have BK104 := n4_; have HR108_0 := n5_; have HR109_0 := n6_; have HB := n7_; clear n0_ n1_ n2_ n3_ n4_ n5_ n6_ n7_; (try clear hb); (try clear hb2); (try clear hk); (try clear hi)))
              go_ret
              exact ⟨by first | rfl | (simp [errW_none, errW_some] <;> rfl) | (simp [*, errW_none, errW_some] <;> rfl), by repeat (first | (with_reducible first | exact HB.out | apply below_alloc | apply pw_below_drewN | apply below_drew1 | refine below_set ?_ GE104.out) | exact HB.out)⟩
            · rw [if_neg c7] at H
              have c7b0 : ((rd (rd_L2 t105 2) 0) == 1) = false := beq_eq_false_iff_ne.mpr c7
              have c7b1 : ((rd (rd_L2 t105 2) 0) != 1) = true := bne_iff_ne.mpr c7
              obtain rfl := Option.some.inj H
              go_enter Try.func20, Try.ntmps20
              go_wp2_with (first | ((with_reducible refine gate_dst (N := 5) rfl ?_); (try (refine gate_guard (by rfl) ?_; dsimp only)); refine Kd.R_lit k30 _ 30 ?hg (N := 5) ?hd (xs := ([(⟨(-1), ([] : List (S30))⟩ : S30), (⟨2, ([] : List (S30))⟩ : S30)] : List (S30))) (inner := [.int .i64 (-1), .slice none 0 0, .int .i64 2, .slice none 0 0]) (ok := fun _ => True) (okp := fun _ => True) ?hr ?hp (fun _ hk => hk) trivial (Below.refl _ _) (Nat.le_refl _) (by simp) ?_; (case hd => rfl); (case hg => rfl); (case hr => first | (go_simp; done) | (go_simp; rfl)); (case hp => exact (Reps.c2 (show Kd.M k30 _ _ _ (⟨(-1), ([] : List (S30))⟩ : S30) [.int .i64 (-1), .slice none 0 0] from (k30_mkM _ _ _ (⟨(-1), ([] : List (S30))⟩ : S30) (Kd.R_nil _ _ _ _ _))) (Reps.c2 (show Kd.M k30 _ _ _ (⟨2, ([] : List (S30))⟩ : S30) [.int .i64 2, .slice none 0 0] from (k30_mkM _ _ _ (⟨2, ([] : List (S30))⟩ : S30) (Kd.R_nil _ _ _ _ _))) (Reps.none _ _)))); intro v102 w18 ho19 hb hg_ hnew_; clear hg_ hnew_; (first | rw [← Ny101.out] at ho19 | (simp only [Int.reduceToNat] at ho19; rw [← Ny101.out] at ho19)); have n0_ := Aside0.mk (Kd.R_lower ho19 (below_size (by repeat (first | (with_reducible first | exact HB.out | apply below_alloc | apply pw_below_drewN | apply below_drew1) | exact HB.out)))); have n1_ := Aside0.mk (below_step (by repeat (first | (with_reducible first | exact HB.out | apply below_alloc | apply pw_below_drewN | apply below_drew1) | exact HB.out)) hb); clear HB; have HO103 := n0_; have HB := n1_; clear n0_ n1_; clear hb ho19; obtain ⟨Ao20, co20, eo20⟩ := Kd.R_slice HO103.out; subst eo20) | ((with_reducible refine gate_dst (N := 1) rfl ?_); (try (refine gate_guard (by rfl) ?_; dsimp only)); refine box_event ?hg (N := 1) ?hd (cs := #[.int .i64 0, .slice none 0 0]) (t := 30) ?hr ?_; (case hd => rfl); (case hg => rfl); (case hr => first | (go_simp; done) | (go_simp; rfl)); intro gb104 hg w21 hbox hb; have n0_ := Aside0.mk (Kd.R_below (Kd.R_elderB (by (with_reducible repeat (first | apply Kd.R_alloc | apply Kd.R_drewN | apply Kd.R_drew)); exact HO103.out) gb104 (Nat.le_of_eq hg.symm)) hb); have n1_ := Aside0.mk (below_step (by repeat (first | (with_reducible first | exact HB.out | apply below_alloc | apply pw_below_drewN | apply below_drew1) | exact HB.out)) hb); have n2_ := Aside0.mk (hbox); have n3_ := Aside0.mk ((by rw [hg]; exact (below_size (by repeat (first | (with_reducible first | exact HB.out | apply below_alloc | apply pw_below_drewN | apply below_drew1) | exact HB.out))) : w.heap.size ≤ gb104)); have n4_ := Aside0.mk ((by rw [hg]; exact (below_size (by repeat (first | (with_reducible first | exact HB.out | apply below_alloc | apply pw_below_drewN | apply below_drew1) | exact HB.out))) : w.heap.size ≤ gb104)); clear HO103; clear HB; have HO103 := n0_; have HB := n1_; have BK104 := n2_; have GW104 := n3_; have GE104 := n4_; clear n0_ n1_ n2_ n3_ n4_; clear hb hbox hg; have hcz22_0 : w21.cell? ⟨gb104, 0, none⟩ = some (.int .i64 0) := (blk_cell BK104.out 0).trans rfl; have hcz22_1 : w21.cell? ⟨gb104, 1, none⟩ = some (.slice none 0 0) := (blk_cell BK104.out 1).trans rfl; have hfz22_0 := blk_frozen BK104.out 0; have hfz22_1 := blk_frozen BK104.out 1) | (go_at_call 23; (with_reducible refine (term_Places.calls 1 _ _ y101 t105 _ ?side1 ?side2 A1.out).mono ?_); (case side1 => refine (Kd.R_reads' (e := 30) (base := w.heap.size) (ok := fun k_ => (True ∧ k_ ≠ gb104)) (n := y101.length) (c := co20) ?_).2.2; exact (by (with_reducible repeat (first | apply Kd.R_alloc | apply Kd.R_drewN | apply Kd.R_drew)); exact (Kd.R_mono (Kd.R_far (p := ⟨gb104, 1, none⟩) (Kd.R_far (p := ⟨gb104, 0, none⟩) (Kd.R_mono HO103.out (fun k_ hk => (⟨hk, hk.2⟩ : _ ∧ k_ ≠ gb104))) (fun _ hk => hk.2) (.int .i64 1)) (fun _ hk => hk.2) (.slice Ao20 y101.length co20)) (fun _ h_ => h_.1)))); (case side2 => exact (Kd.R_reads' HO103.out).2.1); rintro e w23 ⟨v106, rfl, ho0, hb⟩; have n0_ := Aside0.mk (Kd.R_below (by (with_reducible repeat (first | apply Kd.R_alloc | apply Kd.R_drewN | apply Kd.R_drew)); exact (Kd.R_mono (Kd.R_far (p := ⟨gb104, 1, none⟩) (Kd.R_far (p := ⟨gb104, 0, none⟩) (Kd.R_mono HO103.out (fun k_ hk => (⟨hk, hk.2⟩ : _ ∧ k_ ≠ gb104))) (fun _ hk => hk.2) (.int .i64 1)) (fun _ hk => hk.2) (.slice Ao20 y101.length co20)) (fun _ h_ => h_.1))) hb); have n1_ := Aside0.mk (Kd.R_lower ho0 (below_size (by repeat (first | (with_reducible first | exact HB.out | apply below_alloc | apply pw_below_drewN | apply below_drew1 | refine below_set ?_ GE104.out) | exact HB.out)))); have n2_ := Aside0.mk (blk_below (g := gb104) (o := .cells #[.int .i64 1, .slice Ao20 y101.length co20] 30 (0, 0)) (by (with_reducible repeat (first | refine blk_drewN ?_ _ | refine blk_drew ?_ | refine blk_alloc ?_ _)); refine blk_put (cs := #[.int .i64 1, .slice none 0 0]) ?_ 1 _ rfl; (with_reducible repeat (first | refine blk_drewN ?_ _ | refine blk_drew ?_ | refine blk_alloc ?_ _)); refine blk_put (cs := #[.int .i64 0, .slice none 0 0]) ?_ 0 _ rfl; (with_reducible repeat (first | refine blk_drewN ?_ _ | refine blk_drew ?_ | refine blk_alloc ?_ _)); exact BK104.out) hb); have n3_ := Aside0.mk (below_step (by repeat (first | (with_reducible first | exact HB.out | apply below_alloc | apply pw_below_drewN | apply below_drew1 | refine below_set ?_ GE104.out) | exact HB.out)) hb); clear HO103; clear BK104; clear HB; have HO103 := n0_; have HO107 := n1_; have BK104 := n2_; have HB := n3_; clear n0_ n1_ n2_ n3_; (try clear hb); (try clear hb2); (try clear hk); (try clear hi); (try clear ho0); obtain ⟨Ao24, co24, eo24⟩ := Kd.R_slice HO107.out; subst eo24; have p108 : 0 ≤ (0 : Int) := (by omega); have q108 : 0 < (t105.length : Int) := of_decide_eq_true (by first | (with_reducible assumption) | assumption); obtain ⟨ad108, A108_0, c108_0, e108, hx108_0, hl108_0, hi108_0⟩ := at_L2 (Kd.R_reads' HO107.out).2.2 0 p108 q108; cases e108; obtain ⟨ce108, hce108, hMe108, hcc108⟩ := Kd.R_get HO107.out [] 0 p108 (by first | exact q108 | exact of_decide_eq_true (by first | (with_reducible assumption) | assumption) | (have e_ := (Kd.R_reads' HO107.out).1; omega)); obtain ⟨ve108_0, rfl, ge108_0⟩ := hMe108; have hv108_0 := hcc108 0 _ rfl; rw [Nat.add_zero, show ((Kd.slice 3 (Kd.int .i64))).sz = 1 from rfl, Nat.mul_one] at hv108_0; replace hv108_0 := Option.some.inj (hv108_0.symm.trans hx108_0); rw [hv108_0] at ge108_0; have HL108_0 := Aside0.mk (show Kd.R (Kd.int .i64) 3 _ _ _ _ (rd_L2 t105 0) from ge108_0); clear hv108_0 ge108_0; clear hcc108 hce108; have qi108 : (0 < t105.length) = True := eq_true (by omega); (try rw [show ((0 : Int)).toNat = 0 from rfl] at hx108_0); (try rw [Addr.add_zero'] at hx108_0); have HR108_0 := Aside0.mk hi108_0; have HC108_0 := Aside0.mk hl108_0; clear hi108_0 hl108_0; replace p108 := eq_true p108; replace q108 := eq_true q108; have p109 : 0 ≤ (2 : Int) := (by omega); have q109 : 2 < (t105.length : Int) := of_decide_eq_true (by first | (with_reducible assumption) | assumption); obtain ⟨ad109, A109_0, c109_0, e109, hx109_0, hl109_0, hi109_0⟩ := at_L2 (Kd.R_reads' HO107.out).2.2 2 p109 q109; obtain rfl : ad108 = ad109 := (by injection e109); obtain ⟨ce109, hce109, hMe109, hcc109⟩ := Kd.R_get HO107.out [] 2 p109 (by first | exact q109 | exact of_decide_eq_true (by first | (with_reducible assumption) | assumption) | (have e_ := (Kd.R_reads' HO107.out).1; omega)); obtain ⟨ve109_0, rfl, ge109_0⟩ := hMe109; have hv109_0 := hcc109 0 _ rfl; rw [Nat.add_zero, show ((Kd.slice 3 (Kd.int .i64))).sz = 1 from rfl, Nat.mul_one] at hv109_0; replace hv109_0 := Option.some.inj (hv109_0.symm.trans hx109_0); rw [hv109_0] at ge109_0; have HL109_0 := Aside0.mk (show Kd.R (Kd.int .i64) 3 _ _ _ _ (rd_L2 t105 2) from ge109_0); clear hv109_0 ge109_0; clear hcc109 hce109; (try simp only [show (2 : Int).toNat = 2 from rfl, Nat.reduceMul, Nat.reduceEqDiff, Go.Addr.add, ↓reduceIte] at hx109_0); have qi109 : (2 < t105.length) = True := eq_true (by omega); (try rw [show ((2 : Int)).toNat = 2 from rfl] at hx109_0); have HR109_0 := Aside0.mk hi109_0; have HC109_0 := Aside0.mk hl109_0; clear hi109_0 hl109_0; replace p109 := eq_true p109; replace q109 := eq_true q109; have p110 : 0 ≤ (0 : Int) := (by omega); have q110 : 0 < ((rd_L2 t105 2).length : Int) := of_decide_eq_true (by first | (with_reducible assumption) | assumption); obtain ⟨ad110, e110, hx110_0⟩ := Kd.at_int (by repeat (first | (with_reducible exact HR109_0.out) | (with_reducible refine Kd.C_alloc ?_ _) | (with_reducible refine Kd.C_drewN ?_ _) | (with_reducible refine Kd.C_drew ?_) | exact HR109_0.out)) 0 p110 q110; cases e110; have qi110 : (0 < (rd_L2 t105 2).length) = True := eq_true (by omega); (try rw [show ((0 : Int)).toNat = 0 from rfl] at hx110_0); (try rw [Addr.add_zero'] at hx110_0); replace p110 := eq_true p110; replace q110 := eq_true q110))
              go_ret
              exact ⟨by first | rfl | (simp [errW_none, errW_some] <;> rfl) | (simp [*, errW_none, errW_some] <;> rfl), by repeat (first | (with_reducible first | exact HB.out | apply below_alloc | apply pw_below_drewN | apply below_drew1 | refine below_set ?_ GE104.out) | exact HB.out)⟩
          · rw [if_neg c6] at H
            exact absurd H (by simp)
        · rw [if_neg c5] at H
          exact absurd H (by simp)
      · rw [if_neg c4] at H
        have c4b0 : (((rd_L2 t105 0).length : Int) == 0) = false := beq_eq_false_iff_ne.mpr c4
        have c4b1 : (((rd_L2 t105 0).length : Int) != 0) = true := bne_iff_ne.mpr c4
        have c4b2 : ¬ ((rd_L2 t105 0) = []) := fun h_ => c4 (by rw [h_]; rfl)
        obtain rfl := Option.some.inj H
        go_enter Try.func20, Try.ntmps20
        go_wp2_with (first | ((with_reducible refine gate_dst (N := 5) rfl ?_); (try (refine gate_guard (by rfl) ?_; dsimp only)); refine Kd.R_lit k30 _ 30 ?hg (N := 5) ?hd (xs := ([(⟨(-1), ([] : List (S30))⟩ : S30), (⟨2, ([] : List (S30))⟩ : S30)] : List (S30))) (inner := [.int .i64 (-1), .slice none 0 0, .int .i64 2, .slice none 0 0]) (ok := fun _ => True) (okp := fun _ => True) ?hr ?hp (fun _ hk => hk) trivial (Below.refl _ _) (Nat.le_refl _) (by simp) ?_; (case hd => rfl); (case hg => rfl); (case hr => first | (go_simp; done) | (go_simp; rfl)); (case hp => exact (Reps.c2 (show Kd.M k30 _ _ _ (⟨(-1), ([] : List (S30))⟩ : S30) [.int .i64 (-1), .slice none 0 0] from (k30_mkM _ _ _ (⟨(-1), ([] : List (S30))⟩ : S30) (Kd.R_nil _ _ _ _ _))) (Reps.c2 (show Kd.M k30 _ _ _ (⟨2, ([] : List (S30))⟩ : S30) [.int .i64 2, .slice none 0 0] from (k30_mkM _ _ _ (⟨2, ([] : List (S30))⟩ : S30) (Kd.R_nil _ _ _ _ _))) (Reps.none _ _)))); intro v102 w25 ho26 hb hg_ hnew_; clear hg_ hnew_; (first | rw [← Ny101.out] at ho26 | (simp only [Int.reduceToNat] at ho26; rw [← Ny101.out] at ho26)); have n0_ := Aside0.mk (Kd.R_lower ho26 (below_size (by repeat (first | (with_reducible first | exact HB.out | apply below_alloc | apply pw_below_drewN | apply below_drew1) | exact HB.out)))); have n1_ := Aside0.mk (below_step (by repeat (first | (with_reducible first | exact HB.out | apply below_alloc | apply pw_below_drewN | apply below_drew1) | exact HB.out)) hb); clear HB; have HO103 := n0_; have HB := n1_; clear n0_ n1_; clear hb ho26; obtain ⟨Ao27, co27, eo27⟩ := Kd.R_slice HO103.out; subst eo27) | ((with_reducible refine gate_dst (N := 1) rfl ?_); (try (refine gate_guard (by rfl) ?_; dsimp only)); refine box_event ?hg (N := 1) ?hd (cs := #[.int .i64 0, .slice none 0 0]) (t := 30) ?hr ?_; (case hd => rfl); (case hg => rfl); (case hr => first | (go_simp; done) | (go_simp; rfl)); intro gb104 hg w28 hbox hb; have n0_ := Aside0.mk (Kd.R_below (Kd.R_elderB (by (with_reducible repeat (first | apply Kd.R_alloc | apply Kd.R_drewN | apply Kd.R_drew)); exact HO103.out) gb104 (Nat.le_of_eq hg.symm)) hb); have n1_ := Aside0.mk (below_step (by repeat (first | (with_reducible first | exact HB.out | apply below_alloc | apply pw_below_drewN | apply below_drew1) | exact HB.out)) hb); have n2_ := Aside0.mk (hbox); have n3_ := Aside0.mk ((by rw [hg]; exact (below_size (by repeat (first | (with_reducible first | exact HB.out | apply below_alloc | apply pw_below_drewN | apply below_drew1) | exact HB.out))) : w.heap.size ≤ gb104)); have n4_ := Aside0.mk ((by rw [hg]; exact (below_size (by repeat (first | (with_reducible first | exact HB.out | apply below_alloc | apply pw_below_drewN | apply below_drew1) | exact HB.out))) : w.heap.size ≤ gb104)); clear HO103; clear HB; have HO103 := n0_; have HB := n1_; have BK104 := n2_; have GW104 := n3_; have GE104 := n4_; clear n0_ n1_ n2_ n3_ n4_; clear hb hbox hg; have hcz29_0 : w28.cell? ⟨gb104, 0, none⟩ = some (.int .i64 0) := (blk_cell BK104.out 0).trans rfl; have hcz29_1 : w28.cell? ⟨gb104, 1, none⟩ = some (.slice none 0 0) := (blk_cell BK104.out 1).trans rfl; have hfz29_0 := blk_frozen BK104.out 0; have hfz29_1 := blk_frozen BK104.out 1) | (go_at_call 23; (with_reducible refine (term_Places.calls 1 _ _ y101 t105 _ ?side1 ?side2 A1.out).mono ?_); (case side1 => refine (Kd.R_reads' (e := 30) (base := w.heap.size) (ok := fun k_ => (True ∧ k_ ≠ gb104)) (n := y101.length) (c := co27) ?_).2.2; exact (by (with_reducible repeat (first | apply Kd.R_alloc | apply Kd.R_drewN | apply Kd.R_drew)); exact (Kd.R_mono (Kd.R_far (p := ⟨gb104, 1, none⟩) (Kd.R_far (p := ⟨gb104, 0, none⟩) (Kd.R_mono HO103.out (fun k_ hk => (⟨hk, hk.2⟩ : _ ∧ k_ ≠ gb104))) (fun _ hk => hk.2) (.int .i64 1)) (fun _ hk => hk.2) (.slice Ao27 y101.length co27)) (fun _ h_ => h_.1)))); (case side2 => exact (Kd.R_reads' HO103.out).2.1); rintro e w30 ⟨v106, rfl, ho0, hb⟩; have n0_ := Aside0.mk (Kd.R_below (by (with_reducible repeat (first | apply Kd.R_alloc | apply Kd.R_drewN | apply Kd.R_drew)); exact (Kd.R_mono (Kd.R_far (p := ⟨gb104, 1, none⟩) (Kd.R_far (p := ⟨gb104, 0, none⟩) (Kd.R_mono HO103.out (fun k_ hk => (⟨hk, hk.2⟩ : _ ∧ k_ ≠ gb104))) (fun _ hk => hk.2) (.int .i64 1)) (fun _ hk => hk.2) (.slice Ao27 y101.length co27)) (fun _ h_ => h_.1))) hb); have n1_ := Aside0.mk (Kd.R_lower ho0 (below_size (by repeat (first | (with_reducible first | exact HB.out | apply below_alloc | apply pw_below_drewN | apply below_drew1 | refine below_set ?_ GE104.out) | exact HB.out)))); have n2_ := Aside0.mk (blk_below (g := gb104) (o := .cells #[.int .i64 1, .slice Ao27 y101.length co27] 30 (0, 0)) (by (with_reducible repeat (first | refine blk_drewN ?_ _ | refine blk_drew ?_ | refine blk_alloc ?_ _)); refine blk_put (cs := #[.int .i64 1, .slice none 0 0]) ?_ 1 _ rfl; (with_reducible repeat (first | refine blk_drewN ?_ _ | refine blk_drew ?_ | refine blk_alloc ?_ _)); refine blk_put (cs := #[.int .i64 0, .slice none 0 0]) ?_ 0 _ rfl; (with_reducible repeat (first | refine blk_drewN ?_ _ | refine blk_drew ?_ | refine blk_alloc ?_ _)); exact BK104.out) hb); have n3_ := Aside0.mk (below_step (by repeat (first | (with_reducible first | exact HB.out | apply below_alloc | apply pw_below_drewN | apply below_drew1 | refine below_set ?_ GE104.out) | exact HB.out)) hb); clear HO103; clear BK104; clear HB; have HO103 := n0_; have HO107 := n1_; have BK104 := n2_; have HB := n3_; clear n0_ n1_ n2_ n3_; (try clear hb); (try clear hb2); (try clear hk); (try clear hi); (try clear ho0); obtain ⟨Ao31, co31, eo31⟩ := Kd.R_slice HO107.out; subst eo31; have p108 : 0 ≤ (0 : Int) := (by omega); have q108 : 0 < (t105.length : Int) := of_decide_eq_true (by first | (with_reducible assumption) | assumption); obtain ⟨ad108, A108_0, c108_0, e108, hx108_0, hl108_0, hi108_0⟩ := at_L2 (Kd.R_reads' HO107.out).2.2 0 p108 q108; cases e108; obtain ⟨ce108, hce108, hMe108, hcc108⟩ := Kd.R_get HO107.out [] 0 p108 (by first | exact q108 | exact of_decide_eq_true (by first | (with_reducible assumption) | assumption) | (have e_ := (Kd.R_reads' HO107.out).1; omega)); obtain ⟨ve108_0, rfl, ge108_0⟩ := hMe108; have hv108_0 := hcc108 0 _ rfl; rw [Nat.add_zero, show ((Kd.slice 3 (Kd.int .i64))).sz = 1 from rfl, Nat.mul_one] at hv108_0; replace hv108_0 := Option.some.inj (hv108_0.symm.trans hx108_0); rw [hv108_0] at ge108_0; have HL108_0 := Aside0.mk (show Kd.R (Kd.int .i64) 3 _ _ _ _ (rd_L2 t105 0) from ge108_0); clear hv108_0 ge108_0; clear hcc108 hce108; have qi108 : (0 < t105.length) = True := eq_true (by omega); (try rw [show ((0 : Int)).toNat = 0 from rfl] at hx108_0); (try rw [Addr.add_zero'] at hx108_0); have HR108_0 := Aside0.mk hi108_0; have HC108_0 := Aside0.mk hl108_0; clear hi108_0 hl108_0; replace p108 := eq_true p108; replace q108 := eq_true q108))
        go_ret
        exact ⟨by first | rfl | (simp [errW_none, errW_some] <;> rfl) | (simp [*, errW_none, errW_some] <;> rfl), by repeat (first | (with_reducible first | exact HB.out | apply below_alloc | apply pw_below_drewN | apply below_drew1 | refine below_set ?_ GE104.out) | exact HB.out)⟩
    · rw [if_neg c3] at H
      exact absurd H (by simp)
  · rw [if_neg c2] at H
    have c2b0 : ((t105.length : Int) == 3) = false := beq_eq_false_iff_ne.mpr c2
    have c2b1 : ((t105.length : Int) != 3) = true := bne_iff_ne.mpr c2
    obtain rfl := Option.some.inj H
    go_enter Try.func20, Try.ntmps20
    go_wp2_with (first | ((with_reducible refine gate_dst (N := 5) rfl ?_); (try (refine gate_guard (by rfl) ?_; dsimp only)); refine Kd.R_lit k30 _ 30 ?hg (N := 5) ?hd (xs := ([(⟨(-1), ([] : List (S30))⟩ : S30), (⟨2, ([] : List (S30))⟩ : S30)] : List (S30))) (inner := [.int .i64 (-1), .slice none 0 0, .int .i64 2, .slice none 0 0]) (ok := fun _ => True) (okp := fun _ => True) ?hr ?hp (fun _ hk => hk) trivial (Below.refl _ _) (Nat.le_refl _) (by simp) ?_; (case hd => rfl); (case hg => rfl); (case hr => first | (go_simp; done) | (go_simp; rfl)); (case hp => exact (Reps.c2 (show Kd.M k30 _ _ _ (⟨(-1), ([] : List (S30))⟩ : S30) [.int .i64 (-1), .slice none 0 0] from (k30_mkM _ _ _ (⟨(-1), ([] : List (S30))⟩ : S30) (Kd.R_nil _ _ _ _ _))) (Reps.c2 (show Kd.M k30 _ _ _ (⟨2, ([] : List (S30))⟩ : S30) [.int .i64 2, .slice none 0 0] from (k30_mkM _ _ _ (⟨2, ([] : List (S30))⟩ : S30) (Kd.R_nil _ _ _ _ _))) (Reps.none _ _)))); intro v102 w32 ho33 hb hg_ hnew_; clear hg_ hnew_; (first | rw [← Ny101.out] at ho33 | (simp only [Int.reduceToNat] at ho33; rw [← Ny101.out] at ho33)); have n0_ := Aside0.mk (Kd.R_lower ho33 (below_size (by repeat (first | (with_reducible first | exact HB.out | apply below_alloc | apply pw_below_drewN | apply below_drew1) | exact HB.out)))); have n1_ := Aside0.mk (below_step (by repeat (first | (with_reducible first | exact HB.out | apply below_alloc | apply pw_below_drewN | apply below_drew1) | exact HB.out)) hb); clear HB; have HO103 := n0_; have HB := n1_; clear n0_ n1_; clear hb ho33; obtain ⟨Ao34, co34, eo34⟩ := Kd.R_slice HO103.out; subst eo34) | ((with_reducible refine gate_dst (N := 1) rfl ?_); (try (refine gate_guard (by rfl) ?_; dsimp only)); refine box_event ?hg (N := 1) ?hd (cs := #[.int .i64 0, .slice none 0 0]) (t := 30) ?hr ?_; (case hd => rfl); (case hg => rfl); (case hr => first | (go_simp; done) | (go_simp; rfl)); intro gb104 hg w35 hbox hb; have n0_ := Aside0.mk (Kd.R_below (Kd.R_elderB (by (with_reducible repeat (first | apply Kd.R_alloc | apply Kd.R_drewN | apply Kd.R_drew)); exact HO103.out) gb104 (Nat.le_of_eq hg.symm)) hb); have n1_ := Aside0.mk (below_step (by repeat (first | (with_reducible first | exact HB.out | apply below_alloc | apply pw_below_drewN | apply below_drew1) | exact HB.out)) hb); have n2_ := Aside0.mk (hbox); have n3_ := Aside0.mk ((by rw [hg]; exact (below_size (by repeat (first | (with_reducible first | exact HB.out | apply below_alloc | apply pw_below_drewN | apply below_drew1) | exact HB.out))) : w.heap.size ≤ gb104)); have n4_ := Aside0.mk ((by rw [hg]; exact (below_size (by repeat (first | (with_reducible first | exact HB.out | apply below_alloc | apply pw_below_drewN | apply below_drew1) | exact HB.out))) : w.heap.size ≤ gb104)); clear HO103; clear HB; have HO103 := n0_; have HB := n1_; have BK104 := n2_; have GW104 := n3_; have GE104 := n4_; clear n0_ n1_ n2_ n3_ n4_; clear hb hbox hg; have hcz36_0 : w35.cell? ⟨gb104, 0, none⟩ = some (.int .i64 0) := (blk_cell BK104.out 0).trans rfl; have hcz36_1 : w35.cell? ⟨gb104, 1, none⟩ = some (.slice none 0 0) := (blk_cell BK104.out 1).trans rfl; have hfz36_0 := blk_frozen BK104.out 0; have hfz36_1 := blk_frozen BK104.out 1) | (go_at_call 23; (with_reducible refine (term_Places.calls 1 _ _ y101 t105 _ ?side1 ?side2 A1.out).mono ?_); (case side1 => refine (Kd.R_reads' (e := 30) (base := w.heap.size) (ok := fun k_ => (True ∧ k_ ≠ gb104)) (n := y101.length) (c := co34) ?_).2.2; exact (by (with_reducible repeat (first | apply Kd.R_alloc | apply Kd.R_drewN | apply Kd.R_drew)); exact (Kd.R_mono (Kd.R_far (p := ⟨gb104, 1, none⟩) (Kd.R_far (p := ⟨gb104, 0, none⟩) (Kd.R_mono HO103.out (fun k_ hk => (⟨hk, hk.2⟩ : _ ∧ k_ ≠ gb104))) (fun _ hk => hk.2) (.int .i64 1)) (fun _ hk => hk.2) (.slice Ao34 y101.length co34)) (fun _ h_ => h_.1)))); (case side2 => exact (Kd.R_reads' HO103.out).2.1); rintro e w37 ⟨v106, rfl, ho0, hb⟩; have n0_ := Aside0.mk (Kd.R_below (by (with_reducible repeat (first | apply Kd.R_alloc | apply Kd.R_drewN | apply Kd.R_drew)); exact (Kd.R_mono (Kd.R_far (p := ⟨gb104, 1, none⟩) (Kd.R_far (p := ⟨gb104, 0, none⟩) (Kd.R_mono HO103.out (fun k_ hk => (⟨hk, hk.2⟩ : _ ∧ k_ ≠ gb104))) (fun _ hk => hk.2) (.int .i64 1)) (fun _ hk => hk.2) (.slice Ao34 y101.length co34)) (fun _ h_ => h_.1))) hb); have n1_ := Aside0.mk (Kd.R_lower ho0 (below_size (by repeat (first | (with_reducible first | exact HB.out | apply below_alloc | apply pw_below_drewN | apply below_drew1 | refine below_set ?_ GE104.out) | exact HB.out)))); have n2_ := Aside0.mk (blk_below (g := gb104) (o := .cells #[.int .i64 1, .slice Ao34 y101.length co34] 30 (0, 0)) (by (with_reducible repeat (first | refine blk_drewN ?_ _ | refine blk_drew ?_ | refine blk_alloc ?_ _)); refine blk_put (cs := #[.int .i64 1, .slice none 0 0]) ?_ 1 _ rfl; (with_reducible repeat (first | refine blk_drewN ?_ _ | refine blk_drew ?_ | refine blk_alloc ?_ _)); refine blk_put (cs := #[.int .i64 0, .slice none 0 0]) ?_ 0 _ rfl; (with_reducible repeat (first | refine blk_drewN ?_ _ | refine blk_drew ?_ | refine blk_alloc ?_ _)); exact BK104.out) hb); have n3_ := Aside0.mk (below_step (by repeat (first | (with_reducible first | exact HB.out | apply below_alloc | apply pw_below_drewN | apply below_drew1 | refine below_set ?_ GE104.out) | exact HB.out)) hb); clear HO103; clear BK104; clear HB; have HO103 := n0_; have HO107 := n1_; have BK104 := n2_; have HB := n3_; clear n0_ n1_ n2_ n3_; (try clear hb); (try clear hb2); (try clear hk); (try clear hi); (try clear ho0); obtain ⟨Ao38, co38, eo38⟩ := Kd.R_slice HO107.out; subst eo38))
    go_ret
    exact ⟨by first | rfl | (simp [errW_none, errW_some] <;> rfl) | (simp [*, errW_none, errW_some] <;> rfl), by repeat (first | (with_reducible first | exact HB.out | apply below_alloc | apply pw_below_drewN | apply below_drew1 | refine below_set ?_ GE104.out) | exact HB.out)⟩

end Go.Proofs.Ytpfddihcikiofaa.P
end

section
/- Plain law: the nodes of a tree; variables, the greatest one. -/
namespace Go.Proofs.Ytpfddihcikiofaa.P
open Go.RowKit Go.Proofs.YtpfddihcikiofaaW.PrintWords Go.Proofs.YtpfddihcikiofaaW.PrintLast Go.Proofs.YtpfddihcikiofaaW.PrintMore
set_option linter.unusedVariables false
set_option linter.unusedSimpArgs false

mutual
/-- All terms in one, in order. -/
def nodes : S30 → List S30
  | ⟨f, l⟩ => ⟨f, l⟩ :: (if f < 0 then [] else nodess l)
def nodess : List S30 → List S30
  | [] => []
  | x :: r => nodes x ++ nodess r
end
mutual
theorem flatP_snd : ∀ (p : List Int) (t : S30), (flatP p t).map Prod.snd = nodes t
  | p, ⟨f, l⟩ => by
    simp only [flatP, nodes, List.map_cons]
    split
    · rfl
    · rw [flatPs_snd p 0 l]
theorem flatPs_snd : ∀ (p : List Int) (i : Nat) (l : List S30), (flatPs p i l).map Prod.snd = nodess l
  | _, _, [] => rfl
  | p, i, x :: r => by
    simp only [flatPs, nodess, List.map_append]
    rw [flatP_snd, flatPs_snd]
end
theorem flatP_len (p : List Int) (t : S30) : (flatP p t).length = (nodes t).length := by rw [← flatP_snd p t, List.length_map]
mutual
theorem nodes_le : ∀ t : S30, (nodes t).length ≤ wt t
  | ⟨f, l⟩ => by
    simp only [nodes, wt, List.length_cons]
    split
    · simp
    · have := nodess_le l; omega
theorem nodess_le : ∀ l : List S30, (nodess l).length ≤ wts l
  | [] => by simp [nodess, wts]
  | x :: r => by
    have h1 := nodes_le x
    have h2 := nodess_le r
    simp only [nodess, wts, List.length_append]
    omega
end
theorem nodes_two (f : Int) (hf : 0 ≤ f) (x y : S30) : nodes ⟨f, [x, y]⟩ = ⟨f, [x, y]⟩ :: (nodes x ++ nodes y) := by
  simp only [nodes, nodess, List.append_nil]
  rw [if_neg (by omega)]

/-! variables -/
def varN (out : List Int) (x : S30) : List Int := if x.f0 < 0 then (if decide (wrap64 (-1 - x.f0) ∈ out) = true then out else out ++ [wrap64 (-1 - x.f0)]) else out
def varsN (l : List S30) : List Int := l.foldl varN []
theorem varsP_eq (l : List (List Int × S30)) : varsP l = varsN (l.map Prod.snd) := by
  unfold varsP varsN
  rw [List.foldl_map]
  rfl
theorem mem_foldl (l : List S30) : ∀ (o : List Int) (n : Int), n ∈ l.foldl varN o ↔ n ∈ o ∨ ∃ x ∈ l, x.f0 < 0 ∧ n = wrap64 (-1 - x.f0) := by
  induction l with
  | nil => intro o n; simp
  | cons x l ih =>
    intro o n
    rw [List.foldl_cons, ih]
    unfold varN
    by_cases h : x.f0 < 0
    · rw [if_pos h]
      by_cases h2 : wrap64 (-1 - x.f0) ∈ o
      · rw [if_pos (decide_eq_true h2)]
        constructor
        · rintro (h3 | ⟨y, hy, h3⟩)
          · exact .inl h3
          · exact .inr ⟨y, by simp [hy], h3⟩
        · rintro (h3 | ⟨y, hy, h3, rfl⟩)
          · exact .inl h3
          · rcases List.mem_cons.1 hy with rfl | hy
            · exact .inl h2
            · exact .inr ⟨y, hy, h3, rfl⟩
      · rw [if_neg (by simp [h2])]
        constructor
        · rintro (h3 | ⟨y, hy, h3⟩)
          · rcases List.mem_append.1 h3 with h3 | h3
            · exact .inl h3
            · exact .inr ⟨x, by simp, h, by simpa using h3⟩
          · exact .inr ⟨y, by simp [hy], h3⟩
        · rintro (h3 | ⟨y, hy, h3, rfl⟩)
          · exact .inl (by simp [h3])
          · rcases List.mem_cons.1 hy with rfl | hy
            · exact .inl (by simp)
            · exact .inr ⟨y, hy, h3, rfl⟩
    · rw [if_neg h]
      constructor
      · rintro (h3 | ⟨y, hy, h3⟩)
        · exact .inl h3
        · exact .inr ⟨y, by simp [hy], h3⟩
      · rintro (h3 | ⟨y, hy, h3, rfl⟩)
        · exact .inl h3
        · rcases List.mem_cons.1 hy with rfl | hy
          · exact absurd h3 h
          · exact .inr ⟨y, hy, h3, rfl⟩
theorem foldl_prefix (l : List S30) : ∀ o : List Int, ∃ s, l.foldl varN o = o ++ s := by
  induction l with
  | nil => intro o; exact ⟨[], by simp⟩
  | cons x l ih =>
    intro o
    obtain ⟨s, hs⟩ := ih (varN o x)
    rw [List.foldl_cons, hs]
    unfold varN
    split
    · split
      · exact ⟨s, rfl⟩
      · exact ⟨[wrap64 (-1 - x.f0)] ++ s, by simp⟩
    · exact ⟨s, rfl⟩
theorem nodup_foldl (l : List S30) : ∀ o : List Int, o.Nodup → (l.foldl varN o).Nodup := by
  induction l with
  | nil => intro o h; exact h
  | cons x l ih =>
    intro o h
    rw [List.foldl_cons]
    refine ih _ ?_
    unfold varN
    split
    · split
      · exact h
      · rename_i h2
        rw [List.nodup_append]
        refine ⟨h, by simp, ?_⟩
        intro a ha b hb
        simp at hb
        subst hb
        intro e
        subst e
        simp [ha] at h2
    · exact h
theorem nodup_len : ∀ (a b : List Int), a.Nodup → (∀ x ∈ a, x ∈ b) → a.length ≤ b.length := by
  intro a
  induction a with
  | nil => intro b _ _; simp
  | cons x a ih =>
    intro b hn hs
    rw [List.nodup_cons] at hn
    have h1 := ih (b.erase x) hn.2 (fun y hy => by
      have hne : y ≠ x := fun e => hn.1 (e ▸ hy)
      exact (List.mem_erase_of_ne hne).2 (hs y (by simp [hy])))
    have hx : x ∈ b := hs x (by simp)
    rw [List.length_erase_of_mem hx] at h1
    have := List.length_pos_of_mem hx
    simp only [List.length_cons]
    omega
theorem foldl_len_le (l : List S30) (o : List Int) : (l.foldl varN o).length ≤ o.length + (varsN l).length := by
  have key : ∀ (l : List S30) (P Q : List Int), P.length ≤ o.length + Q.length → (∀ v ∈ Q, v ∈ P) → (l.foldl varN P).length ≤ o.length + (l.foldl varN Q).length := by
    intro l
    induction l with
    | nil => intro P Q h _; exact h
    | cons x l ih =>
      intro P Q h hs
      rw [List.foldl_cons, List.foldl_cons]
      refine ih _ _ ?_ ?_
      · unfold varN
        by_cases h1 : x.f0 < 0
        · rw [if_pos h1, if_pos h1]
          by_cases h2 : wrap64 (-1 - x.f0) ∈ Q
          · rw [if_pos (decide_eq_true h2), if_pos (decide_eq_true (hs _ h2))]
            exact h
          · rw [if_neg (c := decide (wrap64 (-1 - x.f0) ∈ Q) = true) (by simp [h2])]
            split
            · simp; omega
            · simp; omega
        · rw [if_neg h1, if_neg h1]; exact h
      · intro v hv
        have h1 := (mem_foldl [x] Q v).1 hv
        exact (mem_foldl [x] P v).2 (h1.imp_left (hs v))
  exact key l o [] (by simp) (fun v hv => by cases hv)
/-- The variables of two terms together. -/
theorem vars_two (a b : List S30) : (varsN a).length + (varsN b).length ≥ (varsN (a ++ b)).length ∧ (varsN a).length ≤ (varsN (a ++ b)).length ∧ (varsN b).length ≤ (varsN (a ++ b)).length ∧ ∃ s, varsN (a ++ b) = varsN a ++ s := by
  have he : varsN (a ++ b) = b.foldl varN (varsN a) := by unfold varsN; rw [List.foldl_append]
  obtain ⟨s, hs⟩ := foldl_prefix b (varsN a)
  refine ⟨by rw [he]; exact foldl_len_le b _, by rw [he, hs]; simp, ?_, s, by rw [he]; exact hs⟩
  refine nodup_len _ _ (nodup_foldl b [] List.nodup_nil) (fun x hx => ?_)
  rw [he]
  have := (mem_foldl b [] x).1 hx
  exact (mem_foldl b _ x).2 (.inr (this.resolve_left (by simp)))
/-- The greatest of a list, or -1. -/
def top (l : List Int) : Int := l.foldl mx (-1)
theorem top_spec (l : List Int) : ∀ o : Int, o ≤ l.foldl mx o ∧ (∀ v ∈ l, v ≤ l.foldl mx o) ∧ (l.foldl mx o = o ∨ l.foldl mx o ∈ l) := by
  induction l with
  | nil => intro o; simp
  | cons x l ih =>
    intro o
    obtain ⟨h1, h2, h3⟩ := ih (mx o x)
    have hm : o ≤ mx o x ∧ x ≤ mx o x ∧ (mx o x = o ∨ mx o x = x) := by unfold mx; split <;> omega
    rw [List.foldl_cons]
    refine ⟨by omega, fun v hv => ?_, ?_⟩
    · rcases List.mem_cons.1 hv with rfl | hv
      · omega
      · exact h2 v hv
    · rcases h3 with h3 | h3
      · rcases hm.2.2 with h | h
        · exact .inl (by omega)
        · exact .inr (by rw [h3, h]; simp)
      · exact .inr (by simp [h3])
theorem top_two (a b : List S30) : top (varsN (a ++ b)) = mx (top (varsN a)) (top (varsN b)) := by
  have he : varsN (a ++ b) = b.foldl varN (varsN a) := by unfold varsN; rw [List.foldl_append]
  obtain ⟨a1, a2, a3⟩ := top_spec (varsN (a ++ b)) (-1)
  obtain ⟨b1, b2, b3⟩ := top_spec (varsN a) (-1)
  obtain ⟨c1, c2, c3⟩ := top_spec (varsN b) (-1)
  have hm : ∀ v, v ∈ varsN (a ++ b) ↔ v ∈ varsN a ∨ v ∈ varsN b := by
    intro v
    rw [he, mem_foldl, show varsN b = b.foldl varN [] from rfl, mem_foldl]
    simp
  have h1 : top (varsN a) ≤ top (varsN (a ++ b)) := by
    rcases b3 with h | h
    · unfold top; omega
    · exact a2 _ ((hm _).2 (.inl h))
  have h2 : top (varsN b) ≤ top (varsN (a ++ b)) := by
    rcases c3 with h | h
    · unfold top; omega
    · exact a2 _ ((hm _).2 (.inr h))
  have h3 : top (varsN (a ++ b)) ≤ top (varsN a) ∨ top (varsN (a ++ b)) ≤ top (varsN b) := by
    rcases a3 with h | h
    · left; unfold top; omega
    · rcases (hm _).1 h with h | h
      · exact .inl (b2 _ h)
      · exact .inr (c2 _ h)
  unfold mx
  split <;> omega
theorem top_ge (l : List Int) : -1 ≤ top l := (top_spec l (-1)).1
theorem Top_spec (t : S30) (h : (flatP [] t).length ≤ 1099511627776) : Ev (fun k => term_Top.f k t.f0 t.f1) (top (varsN (nodes t))) := by
  have hv : term_Vars.f t.f0 t.f1 = some (varsN (nodes t)) := by
    unfold term_Vars.f
    rw [S30.eta, if_pos h, varsP_eq, flatP_snd]
  have hl : (varsN (nodes t)).length ≤ 1099511627776 := by
    have := varsP_len (flatP [] t)
    rw [varsP_eq, flatP_snd] at this
    omega
  refine Ev.congr (f := fun k => term_Top.l0 k (-1) (varsN (nodes t)) ((varsN (nodes t)).length : Int) 0) (fun k => ?_) ?_
  · unfold term_Top.f
    rw [hv]
    rfl
  · generalize varsN (nodes t) = l at hl ⊢
    have hloop : ∀ (m i : Nat), l.length - i = m → i ≤ l.length → Ev (fun k => term_Top.l0 k (top (l.take i)) l (l.length : Int) (i : Int)) (top l) := by
      intro m
      induction m with
      | zero =>
        intro i hi hle
        refine Ev.step (f := fun _ => some (top l)) (fun k => ?_) (Ev.now _)
        rw [term_Top.l0, if_neg (by omega), List.take_of_length_le (by omega)]
      | succ m ihm =>
        intro i hi hle
        have hlt : i < l.length := by omega
        refine Ev.step (f := fun k => term_Top.l0 k (top (l.take (i + 1))) l (l.length : Int) ((i + 1 : Nat) : Int)) (fun k => ?_) (ihm (i + 1) (by omega) (by omega))
        rw [term_Top.l0, if_pos (by omega), if_pos (by omega), if_pos (by omega), show wrap64 ((i : Int) + 1) = ((i + 1 : Nat) : Int) from by rw [w64 _ (by omega)]; omega]
        congr 1
        unfold top
        rw [List.take_succ_eq_append_getElem hlt, List.foldl_append]
        simp [rd, List.getD, List.getElem?_eq_getElem hlt]
    have := hloop l.length 0 (by omega) (by omega)
    simpa [top] using this
theorem countP_eq (f : Int) (l : List (List Int × S30)) : countP f l = ((l.map Prod.snd).filter fun x => x.f0 == f).length := by
  unfold countP
  rw [List.filter_map, List.length_map]
  rfl
def countN (f : Int) (l : List S30) : Nat := (l.filter fun x => x.f0 == f).length
theorem alive06 : soriteslaw06_alive.f = some true := by
  simp [soriteslaw06_alive.f, term_Places.f, term_Size.f, flatP, flatPs, rd_L2, rd]
end Go.Proofs.Ytpfddihcikiofaa.P
end

section
-- Laid by a program of this session (wip/tools) over the kit's printer: the functions' own text. Lean checks it.
namespace Go.Proofs.Ytpfddihcikiofaa.P
open Go.RowKit Go.Proofs.YtpfddihcikiofaaW.PrintWords Go.Proofs.YtpfddihcikiofaaW.PrintLast Go.Proofs.YtpfddihcikiofaaW.PrintMore
attribute [local go_sem] max2_int min2_int max_two min_two max_three min_three max_four min_four   -- for this text's walks alone
set_option linter.unusedVariables false
set_option linter.unusedSimpArgs false

/-! ### term_parts: function 74 -/
def term_parts.f (a0_0 : Int) (l0_1 : List (S30)) : Option ((List (S30))) := if a0_0 < 0 then (some ([] : List (S30))) else (some l0_1)
set_option maxHeartbeats 8000000 in
set_option maxRecDepth 100000 in
theorem term_parts.calls (a0_0 : Int) (P0_1_ : Nat → Prop) (A0_1 : Option Addr) (c0_1 : Nat) (l0_1 : List (S30)) (r : List (S30)) (w : World) (hs0_1 : Kd.V k30 30 w w.heap.size (fun k_ => P0_1_ k_) (.slice A0_1 l0_1.length c0_1) l0_1) (h : term_parts.f a0_0 l0_1 = some r) :
    Calls Try.prog 74 #[.agg #[.int .i64 a0_0, .slice A0_1 l0_1.length c0_1]] w fun e w' => ∃ v0_ : Value, e = .returned (v0_) ∧ Kd.V k30 30 w' w.heap.size (fun k_ => (P0_1_ k_ ∨ w.heap.size ≤ k_)) v0_ r ∧ Below w.heap.size w w' := by
  have hu30 := Try.underlying30
  have HO0_1 := Aside0.mk (show Kd.V k30 30 w w.heap.size (fun k_ => (P0_1_ k_ ∨ w.heap.size ≤ k_)) (.slice A0_1 l0_1.length c0_1) l0_1 from Kd.V_mono hs0_1 (fun k_ hk => .inl hk))
  have HB := Aside0.mk (Below.refl w.heap.size w)
  have H : (if a0_0 < 0 then (some ([] : List (S30))) else (some l0_1)) = some r := h
  clear h
  by_cases c2 : a0_0 < 0
  · rw [if_pos c2] at H
    have c2b0 : decide (a0_0 < 0) = true := decide_eq_true c2
    clear c2
    obtain rfl := Option.some.inj H
    go_enter Try.func74, Try.ntmps74
    go_wp2_with (first | ((with_reducible refine gate_dst (N := 1) rfl ?_); refine box_event ?hg (N := 1) ?hd (cs := #[.int .i64 a0_0, .slice A0_1 l0_1.length c0_1]) (t := 30) ?hr ?_; (case hd => rfl); (case hg => rfl); (case hr => first | (go_simp; done) | (go_simp; rfl)); intro gb169 hg w3 hbox hb; have n0_ := Aside0.mk (Kd.V_below (Kd.V_elderB (by (with_reducible repeat (first | apply Kd.V_alloc | apply Kd.V_drewN | apply Kd.V_drew)); exact HO0_1.out) gb169 (Nat.le_of_eq hg.symm)) hb); have n1_ := Aside0.mk (below_step (by repeat (first | (with_reducible first | exact HB.out | apply below_alloc | apply pw_below_drewN | apply below_drew1) | exact HB.out)) hb); have n2_ := Aside0.mk (hbox); have n3_ := Aside0.mk ((by rw [hg]; exact (below_size (by repeat (first | (with_reducible first | exact HB.out | apply below_alloc | apply pw_below_drewN | apply below_drew1) | exact HB.out))) : w.heap.size ≤ gb169)); have n4_ := Aside0.mk ((by rw [hg]; exact (below_size (by repeat (first | (with_reducible first | exact HB.out | apply below_alloc | apply pw_below_drewN | apply below_drew1) | exact HB.out))) : w.heap.size ≤ gb169)); clear HO0_1; clear HB; have HO0_1 := n0_; have HB := n1_; have BK169 := n2_; have GW169 := n3_; have GE169 := n4_; clear n0_ n1_ n2_ n3_ n4_; clear hb hbox hg; have hcz4_0 : w3.cell? ⟨gb169, 0, none⟩ = some (.int .i64 a0_0) := (blk_cell BK169.out 0).trans rfl; have hcz4_1 : w3.cell? ⟨gb169, 1, none⟩ = some (.slice A0_1 l0_1.length c0_1) := (blk_cell BK169.out 1).trans rfl; have hfz4_0 := blk_frozen BK169.out 0; have hfz4_1 := blk_frozen BK169.out 1))
    go_ret
    exact ⟨_, by first | rfl | (simp [errW_none, errW_some] <;> rfl) | (simp [*, errW_none, errW_some] <;> rfl), by first | exact Kd.R_nil _ _ _ _ _ | exact Kd.N_nil _ _ _ _ _ | exact Kd.V_nil _ _ _ _ _ | exact Kd.Q_nil _ _ _ _ _ | exact Kd.S_nil _ _ _ _ _, by repeat (first | (with_reducible first | exact HB.out | apply below_alloc | apply pw_below_drewN | apply below_drew1 | refine below_set ?_ GE169.out) | exact HB.out)⟩
  · rw [if_neg c2] at H
    have c2b0 : decide (a0_0 < 0) = false := decide_eq_false c2
    clear c2
    obtain rfl := Option.some.inj H
    go_enter Try.func74, Try.ntmps74
    go_wp2_with (first | ((with_reducible refine gate_dst (N := 1) rfl ?_); refine box_event ?hg (N := 1) ?hd (cs := #[.int .i64 a0_0, .slice A0_1 l0_1.length c0_1]) (t := 30) ?hr ?_; (case hd => rfl); (case hg => rfl); (case hr => first | (go_simp; done) | (go_simp; rfl)); intro gb169 hg w5 hbox hb; have n0_ := Aside0.mk (Kd.V_below (Kd.V_elderB (by (with_reducible repeat (first | apply Kd.V_alloc | apply Kd.V_drewN | apply Kd.V_drew)); exact HO0_1.out) gb169 (Nat.le_of_eq hg.symm)) hb); have n1_ := Aside0.mk (below_step (by repeat (first | (with_reducible first | exact HB.out | apply below_alloc | apply pw_below_drewN | apply below_drew1) | exact HB.out)) hb); have n2_ := Aside0.mk (hbox); have n3_ := Aside0.mk ((by rw [hg]; exact (below_size (by repeat (first | (with_reducible first | exact HB.out | apply below_alloc | apply pw_below_drewN | apply below_drew1) | exact HB.out))) : w.heap.size ≤ gb169)); have n4_ := Aside0.mk ((by rw [hg]; exact (below_size (by repeat (first | (with_reducible first | exact HB.out | apply below_alloc | apply pw_below_drewN | apply below_drew1) | exact HB.out))) : w.heap.size ≤ gb169)); clear HO0_1; clear HB; have HO0_1 := n0_; have HB := n1_; have BK169 := n2_; have GW169 := n3_; have GE169 := n4_; clear n0_ n1_ n2_ n3_ n4_; clear hb hbox hg; have hcz6_0 : w5.cell? ⟨gb169, 0, none⟩ = some (.int .i64 a0_0) := (blk_cell BK169.out 0).trans rfl; have hcz6_1 : w5.cell? ⟨gb169, 1, none⟩ = some (.slice A0_1 l0_1.length c0_1) := (blk_cell BK169.out 1).trans rfl; have hfz6_0 := blk_frozen BK169.out 0; have hfz6_1 := blk_frozen BK169.out 1))
    go_ret
    exact ⟨_, by first | rfl | (simp [errW_none, errW_some] <;> rfl) | (simp [*, errW_none, errW_some] <;> rfl), by (with_reducible repeat (first | apply Kd.V_alloc | apply Kd.V_drewN | apply Kd.V_drew)); exact Kd.V_mono HO0_1.out (fun _ hk => hk.1), by repeat (first | (with_reducible first | exact HB.out | apply below_alloc | apply pw_below_drewN | apply below_drew1 | refine below_set ?_ GE169.out) | exact HB.out)⟩

end Go.Proofs.Ytpfddihcikiofaa.P
end
