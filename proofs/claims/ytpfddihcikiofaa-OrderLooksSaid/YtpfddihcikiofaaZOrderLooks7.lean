/- The law OrderLooks holds of every input. Part 7 of 7: PxSoriteslaw14OrderLooks, GLooks, GLooks2, LawOrderLooks. -/
import Derived.Test.YtpfddihcikiofaaZOrderLooks2
import Derived.Test.YtpfddihcikiofaaZOrderLooks6
import Derived.Test.YtpfddihcikiofaaZOrderLooks5
import Derived.Test.YtpfddihcikiofaaRows
import Derived.WalkKit
import Derived.ProofKit
import Derived.OpenShut
import Derived.ShutString
import Derived.ChangeOld
import Derived.Below
import Derived.SizedLaws
import Derived.Test.YtpfddihcikiofaaZOrderLooks1
import Derived.Test.YtpfddihcikiofaaZOrderLooks3
import Derived.Test.YtpfddihcikiofaaZOrderLooks4
namespace Go.Proofs.Ytpfddihcikiofaa.P
open Go.RowKit Go.Proofs.YtpfddihcikiofaaW.PrintWords Go.Proofs.YtpfddihcikiofaaW.PrintLast Go.Proofs.YtpfddihcikiofaaW.PrintMore
set_option linter.unusedVariables false
set_option linter.unusedSimpArgs false
section
attribute [local go_sem] max2_int min2_int max_two min_two yal_ yak_ max_four min_four
def soriteslaw14_OrderLooks.j0 : Nat → List (S81) → Int → List (S78) → Bool → Option (Bool)
 | 0, _, _, _, _ => none
 | k + 1, x0, x1, x5, x6 => (order_Looked.f k x5).bind fun t476 => ((order_Greatest.f x5 x1).bind fun t479 => (if (t479 == x6) = true then ((soritesref14_Looked.f k x0).bind fun t480 => ((soritesref14_SameInts.f k t476 t480).bind fun t483 => (if t483 = true then (some ((decide ((t476.length : Int) > 0)) == (decide ((x0.length : Int) > 0)))) else (some false)))) else (some false)))
def soriteslaw14_OrderLooks.f (k : Nat) (l0 : List (S81)) (a1 : Int) : Option (Bool) := (soriteslaw14_alive.f k).bind fun t470 => (if t470 = true then ((soriteslaw11_Fine.f k l0 6 12).bind fun t471 => (if t471 = true then ((soriteslaw11_Of.f k l0).bind fun t472 => (if a1 ≥ 0 then (if a1 < (l0.length : Int) then ((soritesref14_Greatest.f k l0 a1).bind fun t475 => (soriteslaw14_OrderLooks.j0 k l0 a1 t472 t475)) else (soriteslaw14_OrderLooks.j0 k l0 a1 t472 false)) else (soriteslaw14_OrderLooks.j0 k l0 a1 t472 false))) else (some true))) else (some false))
set_option maxHeartbeats 8000000 in
set_option maxRecDepth 100000 in
theorem soriteslaw14_OrderLooks.calls (k : Nat) (A0 : Option Addr) (c0 : Nat) (l0 : List (S81)) (a1 : Int) (r : Bool) (w : World) (hr0 : Kd.C k81 w A0 l0.length l0) (hc0 : l0.length ≤ c0) (h : soriteslaw14_OrderLooks.f k l0 a1 = some r) :
  Calls Try.prog 15 #[.slice A0 l0.length c0, .int .i64 a1] w fun e w' => e = .returned (.bool r) ∧ Below w.heap.size w w' := by
 have HR0 := Az_.mk hr0
 have HC0 := Az_.mk hc0
 clear hr0 hc0
 have HB := Az_.mk (Below.refl w.heap.size w)
 have H : ((soriteslaw14_alive.f k).bind fun t470 => (if t470 = true then ((soriteslaw11_Fine.f k l0 6 12).bind fun t471 => (if t471 = true then ((soriteslaw11_Of.f k l0).bind fun t472 => (if a1 ≥ 0 then (if a1 < (l0.length : Int) then ((soritesref14_Greatest.f k l0 a1).bind fun t475 => (soriteslaw14_OrderLooks.j0 k l0 a1 t472 t475)) else (soriteslaw14_OrderLooks.j0 k l0 a1 t472 false)) else (soriteslaw14_OrderLooks.j0 k l0 a1 t472 false))) else (some true))) else (some false))) = some r := h
 clear h
 replace H := Option.bind_eq_some_iff.mp H
 obtain ⟨t470, A30, H⟩ := H
 replace H : (if t470 = true then ((soriteslaw11_Fine.f k l0 6 12).bind fun t471 => (if t471 = true then ((soriteslaw11_Of.f k l0).bind fun t472 => (if a1 ≥ 0 then (if a1 < (l0.length : Int) then ((soritesref14_Greatest.f k l0 a1).bind fun t475 => (soriteslaw14_OrderLooks.j0 k l0 a1 t472 t475)) else (soriteslaw14_OrderLooks.j0 k l0 a1 t472 false)) else (soriteslaw14_OrderLooks.j0 k l0 a1 t472 false))) else (some true))) else (some false)) = some r := H
 have A3 := Az_.mk A30
 clear A30
 by_cases c4 : t470 = true
 ·subst c4
  have H1 : ((soriteslaw11_Fine.f k l0 6 12).bind fun t471 => (if t471 = true then ((soriteslaw11_Of.f k l0).bind fun t472 => (if a1 ≥ 0 then (if a1 < (l0.length : Int) then ((soritesref14_Greatest.f k l0 a1).bind fun t475 => (soriteslaw14_OrderLooks.j0 k l0 a1 t472 t475)) else (soriteslaw14_OrderLooks.j0 k l0 a1 t472 false)) else (soriteslaw14_OrderLooks.j0 k l0 a1 t472 false))) else (some true))) = some r := by rw [if_pos rfl] at H; exact H
  clear H
  have H := H1
  clear H1
  replace H := Option.bind_eq_some_iff.mp H
  obtain ⟨t471, A50, H⟩ := H
  replace H : (if t471 = true then ((soriteslaw11_Of.f k l0).bind fun t472 => (if a1 ≥ 0 then (if a1 < (l0.length : Int) then ((soritesref14_Greatest.f k l0 a1).bind fun t475 => (soriteslaw14_OrderLooks.j0 k l0 a1 t472 t475)) else (soriteslaw14_OrderLooks.j0 k l0 a1 t472 false)) else (soriteslaw14_OrderLooks.j0 k l0 a1 t472 false))) else (some true)) = some r := H
  have A5 := Az_.mk A50
  clear A50
  by_cases c6 : t471 = true
  ·subst c6
   have H1 : ((soriteslaw11_Of.f k l0).bind fun t472 => (if a1 ≥ 0 then (if a1 < (l0.length : Int) then ((soritesref14_Greatest.f k l0 a1).bind fun t475 => (soriteslaw14_OrderLooks.j0 k l0 a1 t472 t475)) else (soriteslaw14_OrderLooks.j0 k l0 a1 t472 false)) else (soriteslaw14_OrderLooks.j0 k l0 a1 t472 false))) = some r := by rw [if_pos rfl] at H; exact H
   clear H
   have H := H1
   clear H1
   replace H := Option.bind_eq_some_iff.mp H
   obtain ⟨t472, A70, H⟩ := H
   replace H : (if a1 ≥ 0 then (if a1 < (l0.length : Int) then ((soritesref14_Greatest.f k l0 a1).bind fun t475 => (soriteslaw14_OrderLooks.j0 k l0 a1 t472 t475)) else (soriteslaw14_OrderLooks.j0 k l0 a1 t472 false)) else (soriteslaw14_OrderLooks.j0 k l0 a1 t472 false)) = some r := H
   have A7 := Az_.mk A70
   clear A70
   have HC8 := Az_.mk H
   clear H
   go_enter Try.func15, Try.ntmps15
   go_upto_region 6 with (first | ((with_reducible refine yae_ (f := 54) rfl ?_); refine goesL_ (some 8) rfl rfl Try.func54 (by kernel_rfl) rfl #[] rfl (by (try simp only [List.map_toArray, List.map_cons, List.map_nil]); first | done | rfl | (simp only [List.length_drop, List.length_take]; rfl)) ?_; (with_reducible refine (soriteslaw14_alive.calls k  true _ A3.out).mono ?_); rintro e w9 ⟨rfl, hb⟩; refine ⟨_, rfl, ?_⟩; have n0_ := Az_.mk (bT_ (by repeat (first | (with_reducible first | exact HB.out | apply bA_ | apply bN_ | apply bD_) | exact HB.out)) hb); clear HB; have HB := n0_; clear n0_; (try clear hb); (try clear hb2); (try clear hk); (try clear hi)) | ((with_reducible refine yae_ (f := 55) rfl ?_); refine goesL_ (some 11) rfl rfl Try.func55 (by kernel_rfl) rfl #[.slice A0 l0.length c0, .int .i64 6, .int .i64 12] rfl (by (try simp only [List.map_toArray, List.map_cons, List.map_nil]); first | done | rfl | (simp only [List.length_drop, List.length_take]; rfl)) ?_; (with_reducible refine (soriteslaw11_Fine.calls k _ _ l0 6 12 true _ ?side1 ?side2 A5.out).mono ?_); (case side1 => repeat (first | exact (Kd.C_below HR0.out HB.out) | (with_reducible refine Kd.C_alloc ?_ _) | (with_reducible refine Kd.C_drewN ?_ _) | (with_reducible refine Kd.C_drew ?_))); (case side2 => exact HC0.out); rintro e w10 ⟨rfl, hb⟩; refine ⟨_, rfl, ?_⟩; have n0_ := Az_.mk (bT_ (by repeat (first | (with_reducible first | exact HB.out | apply bA_ | apply bN_ | apply bD_) | exact HB.out)) hb); clear HB; have HB := n0_; clear n0_; (try clear hb); (try clear hb2); (try clear hk); (try clear hi)) | ((with_reducible refine yae_ (f := 56) rfl ?_); refine goesL_ (some 14) rfl rfl Try.func56 (by kernel_rfl) rfl #[.slice A0 l0.length c0] rfl (by (try simp only [List.map_toArray, List.map_cons, List.map_nil]); first | done | rfl | (simp only [List.length_drop, List.length_take]; rfl)) ?_; (with_reducible refine (soriteslaw11_Of.calls k _ _ l0 t472 _ ?side1 ?side2 A7.out).mono ?_); (case side1 => repeat (first | exact (Kd.C_below HR0.out HB.out) | (with_reducible refine Kd.C_alloc ?_ _) | (with_reducible refine Kd.C_drewN ?_ _) | (with_reducible refine Kd.C_drew ?_))); (case side2 => exact HC0.out); rintro e w11 ⟨v473, rfl, ho0, hb⟩; refine ⟨_, rfl, ?_⟩; have n0_ := Az_.mk (Kd.R_lower ho0 (bZ_ (by repeat (first | (with_reducible first | exact HB.out | apply bA_ | apply bN_ | apply bD_) | exact HB.out)))); have n1_ := Az_.mk (bT_ (by repeat (first | (with_reducible first | exact HB.out | apply bA_ | apply bN_ | apply bD_) | exact HB.out)) hb); clear HB; have HO474 := n0_; have HB := n1_; clear n0_ n1_; (try clear hb); (try clear hb2); (try clear hk); (try clear hi); (try clear ho0)))
   (try simp only [Act.put, sA_, sZ_, sS_])
   go_cut [6] (fun v6 wc => ∃ (kq : Nat) (x6_7 : Bool), v6 = .bool x6_7 ∧ Az_ (soriteslaw14_OrderLooks.j0 kq l0 a1 t472 x6_7 = some r) ∧ Az_ (kq ≤ k) ∧ Az_ (Kd.R k78 78 wc w.heap.size (fun _ => True) v473 t472) ∧ Az_ (Below w.heap.size w wc))
   case first =>
    have H := HC8.out
    clear HC8
    by_cases c12 : a1 ≥ 0
    ·rw [if_pos c12] at H
     have c12b0 : decide (0 ≤ a1) = true := decide_eq_true c12
     clear c12
     (first | rw [c12b0] | (simp only [i64_w, i32_w]; rw [c12b0]) | skip)
     by_cases c13 : a1 < (l0.length : Int)
     ·rw [if_pos c13] at H
      have c13b0 : decide (a1 < (l0.length : Int)) = true := decide_eq_true c13
      clear c13
      replace H := Option.bind_eq_some_iff.mp H
      obtain ⟨t475, A140, H⟩ := H
      replace H : (soriteslaw14_OrderLooks.j0 k l0 a1 t472 t475) = some r := H
      have A14 := Az_.mk A140
      clear A140
      have H' := Az_.mk H
      clear H
      go_wp2_with (first | (go_at_call 57; (with_reducible refine (soritesref14_Greatest.calls k _ _ l0 a1 t475 _ ?side1 ?side2 A14.out).mono ?_); (case side1 => repeat (first | exact (Kd.C_below HR0.out HB.out) | (with_reducible refine Kd.C_alloc ?_ _) | (with_reducible refine Kd.C_drewN ?_ _) | (with_reducible refine Kd.C_drew ?_))); (case side2 => exact HC0.out); rintro e w15 ⟨rfl, hb⟩; have n0_ := Az_.mk (Kd.R_below (by (with_reducible repeat (first | apply Kd.R_alloc | apply Kd.R_drewN | apply Kd.R_drew)); exact HO474.out) hb); have n1_ := Az_.mk (bT_ (by repeat (first | (with_reducible first | exact HB.out | apply bA_ | apply bN_ | apply bD_) | exact HB.out)) hb); clear HO474; clear HB; have HO474 := n0_; have HB := n1_; clear n0_ n1_; (try clear hb); (try clear hb2); (try clear hk); (try clear hi)))
      go_meet
      case rel => exact ⟨_, (t475), (by first | rfl | (simp; done) | (simp [*]; done)), H', ⟨by first | omega | exact Nat.le_refl _⟩, ⟨by (with_reducible repeat (first | apply Kd.R_alloc | apply Kd.R_drewN | apply Kd.R_drew)); exact HO474.out⟩, ⟨by repeat (first | (with_reducible first | exact HB.out | apply bA_ | apply bN_ | apply bD_) | exact HB.out)⟩⟩
     ·rw [if_neg c13] at H
      have c13b0 : decide (a1 < (l0.length : Int)) = false := decide_eq_false c13
      clear c13
      have H' := Az_.mk H
      clear H
      go_wp2
      go_meet
      case rel => exact ⟨_, (false), (by first | rfl | (simp; done) | (simp [*]; done)), H', ⟨by first | omega | exact Nat.le_refl _⟩, ⟨by (with_reducible repeat (first | apply Kd.R_alloc | apply Kd.R_drewN | apply Kd.R_drew)); exact HO474.out⟩, ⟨by repeat (first | (with_reducible first | exact HB.out | apply bA_ | apply bN_ | apply bD_) | exact HB.out)⟩⟩
    ·rw [if_neg c12] at H
     have c12b0 : decide (0 ≤ a1) = false := decide_eq_false c12
     clear c12
     (first | rw [c12b0] | (simp only [i64_w, i32_w]; rw [c12b0]) | skip)
     have H' := Az_.mk H
     clear H
     go_wp2
     go_meet
     case rel => exact ⟨_, (false), (by first | rfl | (simp; done) | (simp [*]; done)), H', ⟨by first | omega | exact Nat.le_refl _⟩, ⟨by (with_reducible repeat (first | apply Kd.R_alloc | apply Kd.R_drewN | apply Kd.R_drew)); exact HO474.out⟩, ⟨by repeat (first | (with_reducible first | exact HB.out | apply bA_ | apply bN_ | apply bD_) | exact HB.out)⟩⟩
   case rest =>
    clear HC8
    try clear c1
    try clear p2
    try clear c4
    try clear c5
    try clear c6
    try clear c12
    try clear c12b0
    try clear c13
    try clear c13b0
    try clear c15
    obtain ⟨kq, x6_7, rfl, HA, HJ7, HO_5, HB⟩ := hcut
    cases kq with
    | zero => exact absurd HA.out (by simp [soriteslaw14_OrderLooks.j0])
    | succ kj7 =>
     have H := HA.out
     clear HA
     simp only [soriteslaw14_OrderLooks.j0] at H
     replace H := Option.bind_eq_some_iff.mp H
     obtain ⟨t476, A160, H⟩ := H
     replace H : ((order_Greatest.f t472 a1).bind fun t479 => (if (t479 == x6_7) = true then ((soritesref14_Looked.f kj7 l0).bind fun t480 => ((soritesref14_SameInts.f kj7 t476 t480).bind fun t483 => (if t483 = true then (some ((decide ((t476.length : Int) > 0)) == (decide ((l0.length : Int) > 0)))) else (some false)))) else (some false))) = some r := H
     have A16 := Az_.mk A160
     clear A160
     replace H := Option.bind_eq_some_iff.mp H
     obtain ⟨t479, A170, H⟩ := H
     replace H : (if (t479 == x6_7) = true then ((soritesref14_Looked.f kj7 l0).bind fun t480 => ((soritesref14_SameInts.f kj7 t476 t480).bind fun t483 => (if t483 = true then (some ((decide ((t476.length : Int) > 0)) == (decide ((l0.length : Int) > 0)))) else (some false)))) else (some false)) = some r := H
     have A17 := Az_.mk A170
     clear A170
     by_cases c18 : (t479 == x6_7) = true
     ·rw [if_pos c18] at H
      have c18b0 : (t479 == x6_7) = true := c18
      (try (have c18b1 : decide (t479 = x6_7) = true := by simpa using c18))
      (try (have c18b2 : (t479 == x6_7) = true := by simpa using c18))
      clear c18
      replace H := Option.bind_eq_some_iff.mp H
      obtain ⟨t480, A190, H⟩ := H
      replace H : ((soritesref14_SameInts.f kj7 t476 t480).bind fun t483 => (if t483 = true then (some ((decide ((t476.length : Int) > 0)) == (decide ((l0.length : Int) > 0)))) else (some false))) = some r := H
      have A19 := Az_.mk A190
      clear A190
      replace H := Option.bind_eq_some_iff.mp H
      obtain ⟨t483, A200, H⟩ := H
      replace H : (if t483 = true then (some ((decide ((t476.length : Int) > 0)) == (decide ((l0.length : Int) > 0)))) else (some false)) = some r := H
      have A20 := Az_.mk A200
      clear A200
      by_cases c21 : t483 = true
      ·subst c21
       have H1 : (some ((decide ((t476.length : Int) > 0)) == (decide ((l0.length : Int) > 0)))) = some r := by rw [if_pos rfl] at H; exact H
       clear H
       have H := H1
       clear H1
       obtain rfl := Option.some.inj H
       obtain ⟨Ao22, co22, eo22⟩ := Kd.R_slice HO_5.out
       subst eo22
       go_wp2_with (first | ((with_reducible refine yae_ (f := 58) rfl ?_); refine goesL_ (some 29) rfl rfl Try.func58 (by kernel_rfl) rfl #[.slice Ao22 t472.length co22] rfl (by (try simp only [List.map_toArray, List.map_cons, List.map_nil]); first | done | rfl | (simp only [List.length_drop, List.length_take]; rfl)) ?_; (with_reducible refine (order_Looked.calls kj7 _ _ t472 t476 _ ?side1 ?side2 A16.out).mono ?_); (case side1 => repeat (first | exact (Kd.R_reads' HO_5.out).2.2 | (with_reducible refine Kd.C_alloc ?_ _) | (with_reducible refine Kd.C_drewN ?_ _) | (with_reducible refine Kd.C_drew ?_))); (case side2 => exact (Kd.R_reads' HO_5.out).2.1); rintro e w23 ⟨v477, rfl, ho0, hb⟩; refine ⟨_, rfl, ?_⟩; have n0_ := Az_.mk (Kd.R_below (by (with_reducible repeat (first | apply Kd.R_alloc | apply Kd.R_drewN | apply Kd.R_drew)); exact HO_5.out) hb); have n1_ := Az_.mk (Kd.R_lower ho0 (bZ_ (by repeat (first | (with_reducible first | exact HB.out | apply bA_ | apply bN_ | apply bD_) | exact HB.out)))); have n2_ := Az_.mk (bT_ (by repeat (first | (with_reducible first | exact HB.out | apply bA_ | apply bN_ | apply bD_) | exact HB.out)) hb); clear HO_5; clear HB; have HO_5 := n0_; have HO478 := n1_; have HB := n2_; clear n0_ n1_ n2_; (try clear hb); (try clear hb2); (try clear hk); (try clear hi); (try clear ho0)) | ((with_reducible refine yae_ (f := 59) rfl ?_); refine goesL_ (some 32) rfl rfl Try.func59 (by kernel_rfl) rfl #[.slice Ao22 t472.length co22, .int .i64 a1] rfl (by (try simp only [List.map_toArray, List.map_cons, List.map_nil]); first | done | rfl | (simp only [List.length_drop, List.length_take]; rfl)) ?_; (with_reducible refine (order_Greatest.calls _ _ t472 a1 t479 _ ?side1 ?side2 A17.out).mono ?_); (case side1 => repeat (first | exact (Kd.R_reads' HO_5.out).2.2 | (with_reducible refine Kd.C_alloc ?_ _) | (with_reducible refine Kd.C_drewN ?_ _) | (with_reducible refine Kd.C_drew ?_))); (case side2 => exact (Kd.R_reads' HO_5.out).2.1); rintro e w24 ⟨rfl, hb⟩; refine ⟨_, rfl, ?_⟩; have n0_ := Az_.mk (Kd.R_below (by (with_reducible repeat (first | apply Kd.R_alloc | apply Kd.R_drewN | apply Kd.R_drew)); exact HO_5.out) hb); have n1_ := Az_.mk (Kd.R_below (by (with_reducible repeat (first | apply Kd.R_alloc | apply Kd.R_drewN | apply Kd.R_drew)); exact HO478.out) hb); have n2_ := Az_.mk (bT_ (by repeat (first | (with_reducible first | exact HB.out | apply bA_ | apply bN_ | apply bD_) | exact HB.out)) hb); clear HO_5; clear HO478; clear HB; have HO_5 := n0_; have HO478 := n1_; have HB := n2_; clear n0_ n1_ n2_; (try clear hb); (try clear hb2); (try clear hk); (try clear hi)) | (go_at_call 61; (with_reducible refine (soritesref14_Looked.calls kj7 _ _ l0 t480 _ ?side1 ?side2 A19.out).mono ?_); (case side1 => repeat (first | exact (Kd.C_below HR0.out HB.out) | (with_reducible refine Kd.C_alloc ?_ _) | (with_reducible refine Kd.C_drewN ?_ _) | (with_reducible refine Kd.C_drew ?_))); (case side2 => exact HC0.out); rintro e w25 ⟨v481, rfl, ho0, hb⟩; have n0_ := Az_.mk (Kd.R_below (by (with_reducible repeat (first | apply Kd.R_alloc | apply Kd.R_drewN | apply Kd.R_drew)); exact HO_5.out) hb); have n1_ := Az_.mk (Kd.R_elder' (by (with_reducible repeat (first | apply Kd.R_alloc | apply Kd.R_drewN | apply Kd.R_drew)); exact HO478.out) (Kd.R_base ho0) hb); have n2_ := Az_.mk (Kd.R_lower (Kd.R_new' ho0 (Kd.R_lt (by (with_reducible repeat (first | apply Kd.R_alloc | apply Kd.R_drewN | apply Kd.R_drew)); exact HO478.out))) (bZ_ (by repeat (first | (with_reducible first | exact HB.out | apply bA_ | apply bN_ | apply bD_) | exact HB.out)))); have n3_ := Az_.mk (bT_ (by repeat (first | (with_reducible first | exact HB.out | apply bA_ | apply bN_ | apply bD_) | exact HB.out)) hb); clear HO_5; clear HO478; clear HB; have HO_5 := n0_; have HO478 := n1_; have HO482 := n2_; have HB := n3_; clear n0_ n1_ n2_ n3_; (try clear hb); (try clear hb2); (try clear hk); (try clear hi); (try clear ho0); obtain ⟨Ao26, co26, eo26⟩ := Kd.R_slice HO478.out; subst eo26; obtain ⟨Ao27, co27, eo27⟩ := Kd.R_slice HO482.out; subst eo27) | (go_at_call 60; (with_reducible refine (soritesref14_SameInts.calls kj7 _ _ t476 _ _ t480 true _ ?side1 ?side2 ?side3 ?side4 A20.out).mono ?_); (case side1 => repeat (first | exact (Kd.R_reads' HO478.out).2.2 | (with_reducible refine Kd.C_alloc ?_ _) | (with_reducible refine Kd.C_drewN ?_ _) | (with_reducible refine Kd.C_drew ?_))); (case side2 => exact (Kd.R_reads' HO478.out).2.1); (case side3 => repeat (first | exact (Kd.R_reads' HO482.out).2.2 | (with_reducible refine Kd.C_alloc ?_ _) | (with_reducible refine Kd.C_drewN ?_ _) | (with_reducible refine Kd.C_drew ?_))); (case side4 => exact (Kd.R_reads' HO482.out).2.1); rintro e w' ⟨rfl, ⟨nd, rfl⟩⟩))
       go_ret
       exact ⟨by first | rfl | (simp [yad_, yac_] <;> rfl) | (simp [*, yad_, yac_] <;> rfl), by repeat (first | (with_reducible first | exact HB.out | apply bA_ | apply bN_ | apply bD_) | exact HB.out)⟩
      ·replace c21 := Bool.eq_false_iff.mpr c21
       subst c21
       have H1 : (some false) = some r := by rw [if_neg (show ¬ (false = true) by decide)] at H; exact H
       clear H
       have H := H1
       clear H1
       obtain rfl := Option.some.inj H
       obtain ⟨Ao28, co28, eo28⟩ := Kd.R_slice HO_5.out
       subst eo28
       go_wp2_with (first | ((with_reducible refine yae_ (f := 58) rfl ?_); refine goesL_ (some 29) rfl rfl Try.func58 (by kernel_rfl) rfl #[.slice Ao28 t472.length co28] rfl (by (try simp only [List.map_toArray, List.map_cons, List.map_nil]); first | done | rfl | (simp only [List.length_drop, List.length_take]; rfl)) ?_; (with_reducible refine (order_Looked.calls kj7 _ _ t472 t476 _ ?side1 ?side2 A16.out).mono ?_); (case side1 => repeat (first | exact (Kd.R_reads' HO_5.out).2.2 | (with_reducible refine Kd.C_alloc ?_ _) | (with_reducible refine Kd.C_drewN ?_ _) | (with_reducible refine Kd.C_drew ?_))); (case side2 => exact (Kd.R_reads' HO_5.out).2.1); rintro e w29 ⟨v477, rfl, ho0, hb⟩; refine ⟨_, rfl, ?_⟩; have n0_ := Az_.mk (Kd.R_below (by (with_reducible repeat (first | apply Kd.R_alloc | apply Kd.R_drewN | apply Kd.R_drew)); exact HO_5.out) hb); have n1_ := Az_.mk (Kd.R_lower ho0 (bZ_ (by repeat (first | (with_reducible first | exact HB.out | apply bA_ | apply bN_ | apply bD_) | exact HB.out)))); have n2_ := Az_.mk (bT_ (by repeat (first | (with_reducible first | exact HB.out | apply bA_ | apply bN_ | apply bD_) | exact HB.out)) hb); clear HO_5; clear HB; have HO_5 := n0_; have HO478 := n1_; have HB := n2_; clear n0_ n1_ n2_; (try clear hb); (try clear hb2); (try clear hk); (try clear hi); (try clear ho0)) | ((with_reducible refine yae_ (f := 59) rfl ?_); refine goesL_ (some 32) rfl rfl Try.func59 (by kernel_rfl) rfl #[.slice Ao28 t472.length co28, .int .i64 a1] rfl (by (try simp only [List.map_toArray, List.map_cons, List.map_nil]); first | done | rfl | (simp only [List.length_drop, List.length_take]; rfl)) ?_; (with_reducible refine (order_Greatest.calls _ _ t472 a1 t479 _ ?side1 ?side2 A17.out).mono ?_); (case side1 => repeat (first | exact (Kd.R_reads' HO_5.out).2.2 | (with_reducible refine Kd.C_alloc ?_ _) | (with_reducible refine Kd.C_drewN ?_ _) | (with_reducible refine Kd.C_drew ?_))); (case side2 => exact (Kd.R_reads' HO_5.out).2.1); rintro e w30 ⟨rfl, hb⟩; refine ⟨_, rfl, ?_⟩; have n0_ := Az_.mk (Kd.R_below (by (with_reducible repeat (first | apply Kd.R_alloc | apply Kd.R_drewN | apply Kd.R_drew)); exact HO_5.out) hb); have n1_ := Az_.mk (Kd.R_below (by (with_reducible repeat (first | apply Kd.R_alloc | apply Kd.R_drewN | apply Kd.R_drew)); exact HO478.out) hb); have n2_ := Az_.mk (bT_ (by repeat (first | (with_reducible first | exact HB.out | apply bA_ | apply bN_ | apply bD_) | exact HB.out)) hb); clear HO_5; clear HO478; clear HB; have HO_5 := n0_; have HO478 := n1_; have HB := n2_; clear n0_ n1_ n2_; (try clear hb); (try clear hb2); (try clear hk); (try clear hi)) | (go_at_call 61; (with_reducible refine (soritesref14_Looked.calls kj7 _ _ l0 t480 _ ?side1 ?side2 A19.out).mono ?_); (case side1 => repeat (first | exact (Kd.C_below HR0.out HB.out) | (with_reducible refine Kd.C_alloc ?_ _) | (with_reducible refine Kd.C_drewN ?_ _) | (with_reducible refine Kd.C_drew ?_))); (case side2 => exact HC0.out); rintro e w31 ⟨v481, rfl, ho0, hb⟩; have n0_ := Az_.mk (Kd.R_below (by (with_reducible repeat (first | apply Kd.R_alloc | apply Kd.R_drewN | apply Kd.R_drew)); exact HO_5.out) hb); have n1_ := Az_.mk (Kd.R_elder' (by (with_reducible repeat (first | apply Kd.R_alloc | apply Kd.R_drewN | apply Kd.R_drew)); exact HO478.out) (Kd.R_base ho0) hb); have n2_ := Az_.mk (Kd.R_lower (Kd.R_new' ho0 (Kd.R_lt (by (with_reducible repeat (first | apply Kd.R_alloc | apply Kd.R_drewN | apply Kd.R_drew)); exact HO478.out))) (bZ_ (by repeat (first | (with_reducible first | exact HB.out | apply bA_ | apply bN_ | apply bD_) | exact HB.out)))); have n3_ := Az_.mk (bT_ (by repeat (first | (with_reducible first | exact HB.out | apply bA_ | apply bN_ | apply bD_) | exact HB.out)) hb); clear HO_5; clear HO478; clear HB; have HO_5 := n0_; have HO478 := n1_; have HO482 := n2_; have HB := n3_; clear n0_ n1_ n2_ n3_; (try clear hb); (try clear hb2); (try clear hk); (try clear hi); (try clear ho0); obtain ⟨Ao32, co32, eo32⟩ := Kd.R_slice HO478.out; subst eo32; obtain ⟨Ao33, co33, eo33⟩ := Kd.R_slice HO482.out; subst eo33) | (go_at_call 60; (with_reducible refine (soritesref14_SameInts.calls kj7 _ _ t476 _ _ t480 false _ ?side1 ?side2 ?side3 ?side4 A20.out).mono ?_); (case side1 => repeat (first | exact (Kd.R_reads' HO478.out).2.2 | (with_reducible refine Kd.C_alloc ?_ _) | (with_reducible refine Kd.C_drewN ?_ _) | (with_reducible refine Kd.C_drew ?_))); (case side2 => exact (Kd.R_reads' HO478.out).2.1); (case side3 => repeat (first | exact (Kd.R_reads' HO482.out).2.2 | (with_reducible refine Kd.C_alloc ?_ _) | (with_reducible refine Kd.C_drewN ?_ _) | (with_reducible refine Kd.C_drew ?_))); (case side4 => exact (Kd.R_reads' HO482.out).2.1); rintro e w' ⟨rfl, ⟨nd, rfl⟩⟩))
       go_ret
       exact ⟨by first | rfl | (simp [yad_, yac_] <;> rfl) | (simp [*, yad_, yac_] <;> rfl), by repeat (first | (with_reducible first | exact HB.out | apply bA_ | apply bN_ | apply bD_) | exact HB.out)⟩
     ·rw [if_neg c18] at H
      have c18b0 : (t479 == x6_7) = false := by simpa using c18
      (try (have c18b1 : decide (t479 = x6_7) = false := by simpa using c18))
      (try (have c18b2 : (t479 == x6_7) = false := by simpa using c18))
      (try (have c18b3 : ¬ (t479 = x6_7) := by simpa using c18))
      clear c18
      obtain rfl := Option.some.inj H
      obtain ⟨Ao34, co34, eo34⟩ := Kd.R_slice HO_5.out
      subst eo34
      go_wp2_with (first | ((with_reducible refine yae_ (f := 58) rfl ?_); refine goesL_ (some 29) rfl rfl Try.func58 (by kernel_rfl) rfl #[.slice Ao34 t472.length co34] rfl (by (try simp only [List.map_toArray, List.map_cons, List.map_nil]); first | done | rfl | (simp only [List.length_drop, List.length_take]; rfl)) ?_; (with_reducible refine (order_Looked.calls kj7 _ _ t472 t476 _ ?side1 ?side2 A16.out).mono ?_); (case side1 => repeat (first | exact (Kd.R_reads' HO_5.out).2.2 | (with_reducible refine Kd.C_alloc ?_ _) | (with_reducible refine Kd.C_drewN ?_ _) | (with_reducible refine Kd.C_drew ?_))); (case side2 => exact (Kd.R_reads' HO_5.out).2.1); rintro e w35 ⟨v477, rfl, ho0, hb⟩; refine ⟨_, rfl, ?_⟩; have n0_ := Az_.mk (Kd.R_below (by (with_reducible repeat (first | apply Kd.R_alloc | apply Kd.R_drewN | apply Kd.R_drew)); exact HO_5.out) hb); have n1_ := Az_.mk (Kd.R_lower ho0 (bZ_ (by repeat (first | (with_reducible first | exact HB.out | apply bA_ | apply bN_ | apply bD_) | exact HB.out)))); have n2_ := Az_.mk (bT_ (by repeat (first | (with_reducible first | exact HB.out | apply bA_ | apply bN_ | apply bD_) | exact HB.out)) hb); clear HO_5; clear HB; have HO_5 := n0_; have HO478 := n1_; have HB := n2_; clear n0_ n1_ n2_; (try clear hb); (try clear hb2); (try clear hk); (try clear hi); (try clear ho0)) | ((with_reducible refine yae_ (f := 59) rfl ?_); refine goesL_ (some 32) rfl rfl Try.func59 (by kernel_rfl) rfl #[.slice Ao34 t472.length co34, .int .i64 a1] rfl (by (try simp only [List.map_toArray, List.map_cons, List.map_nil]); first | done | rfl | (simp only [List.length_drop, List.length_take]; rfl)) ?_; (with_reducible refine (order_Greatest.calls _ _ t472 a1 t479 _ ?side1 ?side2 A17.out).mono ?_); (case side1 => repeat (first | exact (Kd.R_reads' HO_5.out).2.2 | (with_reducible refine Kd.C_alloc ?_ _) | (with_reducible refine Kd.C_drewN ?_ _) | (with_reducible refine Kd.C_drew ?_))); (case side2 => exact (Kd.R_reads' HO_5.out).2.1); rintro e w36 ⟨rfl, hb⟩; refine ⟨_, rfl, ?_⟩; have n0_ := Az_.mk (Kd.R_below (by (with_reducible repeat (first | apply Kd.R_alloc | apply Kd.R_drewN | apply Kd.R_drew)); exact HO_5.out) hb); have n1_ := Az_.mk (Kd.R_below (by (with_reducible repeat (first | apply Kd.R_alloc | apply Kd.R_drewN | apply Kd.R_drew)); exact HO478.out) hb); have n2_ := Az_.mk (bT_ (by repeat (first | (with_reducible first | exact HB.out | apply bA_ | apply bN_ | apply bD_) | exact HB.out)) hb); clear HO_5; clear HO478; clear HB; have HO_5 := n0_; have HO478 := n1_; have HB := n2_; clear n0_ n1_ n2_; (try clear hb); (try clear hb2); (try clear hk); (try clear hi)))
      go_ret
      exact ⟨by first | rfl | (simp [yad_, yac_] <;> rfl) | (simp [*, yad_, yac_] <;> rfl), by repeat (first | (with_reducible first | exact HB.out | apply bA_ | apply bN_ | apply bD_) | exact HB.out)⟩
  ·replace c6 := Bool.eq_false_iff.mpr c6
   subst c6
   have H1 : (some true) = some r := by rw [if_neg (show ¬ (false = true) by decide)] at H; exact H
   clear H
   have H := H1
   clear H1
   obtain rfl := Option.some.inj H
   go_enter Try.func15, Try.ntmps15
   go_wp2_with (first | ((with_reducible refine yae_ (f := 54) rfl ?_); refine goesL_ (some 8) rfl rfl Try.func54 (by kernel_rfl) rfl #[] rfl (by (try simp only [List.map_toArray, List.map_cons, List.map_nil]); first | done | rfl | (simp only [List.length_drop, List.length_take]; rfl)) ?_; (with_reducible refine (soriteslaw14_alive.calls k  true _ A3.out).mono ?_); rintro e w37 ⟨rfl, hb⟩; refine ⟨_, rfl, ?_⟩; have n0_ := Az_.mk (bT_ (by repeat (first | (with_reducible first | exact HB.out | apply bA_ | apply bN_ | apply bD_) | exact HB.out)) hb); clear HB; have HB := n0_; clear n0_; (try clear hb); (try clear hb2); (try clear hk); (try clear hi)) | ((with_reducible refine yae_ (f := 55) rfl ?_); refine goesL_ (some 11) rfl rfl Try.func55 (by kernel_rfl) rfl #[.slice A0 l0.length c0, .int .i64 6, .int .i64 12] rfl (by (try simp only [List.map_toArray, List.map_cons, List.map_nil]); first | done | rfl | (simp only [List.length_drop, List.length_take]; rfl)) ?_; (with_reducible refine (soriteslaw11_Fine.calls k _ _ l0 6 12 false _ ?side1 ?side2 A5.out).mono ?_); (case side1 => repeat (first | exact (Kd.C_below HR0.out HB.out) | (with_reducible refine Kd.C_alloc ?_ _) | (with_reducible refine Kd.C_drewN ?_ _) | (with_reducible refine Kd.C_drew ?_))); (case side2 => exact HC0.out); rintro e w38 ⟨rfl, hb⟩; refine ⟨_, rfl, ?_⟩; have n0_ := Az_.mk (bT_ (by repeat (first | (with_reducible first | exact HB.out | apply bA_ | apply bN_ | apply bD_) | exact HB.out)) hb); clear HB; have HB := n0_; clear n0_; (try clear hb); (try clear hb2); (try clear hk); (try clear hi)))
   go_ret
   exact ⟨by first | rfl | (simp [yad_, yac_] <;> rfl) | (simp [*, yad_, yac_] <;> rfl), by repeat (first | (with_reducible first | exact HB.out | apply bA_ | apply bN_ | apply bD_) | exact HB.out)⟩
 ·replace c4 := Bool.eq_false_iff.mpr c4
  subst c4
  have H1 : (some false) = some r := by rw [if_neg (show ¬ (false = true) by decide)] at H; exact H
  clear H
  have H := H1
  clear H1
  obtain rfl := Option.some.inj H
  go_enter Try.func15, Try.ntmps15
  go_wp2_with (first | ((with_reducible refine yae_ (f := 54) rfl ?_); refine goesL_ (some 8) rfl rfl Try.func54 (by kernel_rfl) rfl #[] rfl (by (try simp only [List.map_toArray, List.map_cons, List.map_nil]); first | done | rfl | (simp only [List.length_drop, List.length_take]; rfl)) ?_; (with_reducible refine (soriteslaw14_alive.calls k  false _ A3.out).mono ?_); rintro e w39 ⟨rfl, hb⟩; refine ⟨_, rfl, ?_⟩; have n0_ := Az_.mk (bT_ (by repeat (first | (with_reducible first | exact HB.out | apply bA_ | apply bN_ | apply bD_) | exact HB.out)) hb); clear HB; have HB := n0_; clear n0_; (try clear hb); (try clear hb2); (try clear hk); (try clear hi)))
  go_ret
  exact ⟨by first | rfl | (simp [yad_, yac_] <;> rfl) | (simp [*, yad_, yac_] <;> rfl), by repeat (first | (with_reducible first | exact HB.out | apply bA_ | apply bN_ | apply bD_) | exact HB.out)⟩
end
section
def okLit (m : Nat) (x : S78) : Prop := ok x.f1 ∧ wt x.f1 ≤ m ∧ ok x.f2 ∧ wt x.f2 ≤ m
theorem okLit.fit {m : Nat} {x : S78} (h : okLit m x) (hm : m ≤ 1000) : fitL x :=
 ⟨fit_of_ok x.f1 h.1 (by have := nodes_le x.f1; have := h.2.1; omega), fit_of_ok x.f2 h.2.2.1 (by have := nodes_le x.f2; have := h.2.2.2; omega)⟩
theorem rd81_at (l : List S81) (k : Nat) (h : k < l.length) : rd_T81 l (k : Int) = l[k] := by
 unfold rd_T81
 simp [List.getD, List.getElem?_eq_getElem h]
theorem Fine11_spec (l : List S81) (n : Nat) (m : Nat) (hn : n ≤ 1000) (hm : m ≤ 1000) : ∃ r, Ev (fun k => soriteslaw11_Fine.f k l (n : Int) (m : Int)) r ∧ (r = true → l.length ≤ n ∧ ∀ x ∈ l, okLit m x) := by
 by_cases hl : (l.length : Int) > (n : Int)
 ·exact ⟨false, Ev.congr (f := fun _ => some false) (fun k => by rw [soriteslaw11_Fine.f, if_pos hl]) (Ev.now _), fun h => by cases h⟩
 have hloop : ∀ (d i : Nat), l.length - i = d → i ≤ l.length → (∀ x ∈ l.take i, okLit m x) → ∃ r, Ev (fun k => soriteslaw11_Fine.l0 k l (m : Int) (i : Int)) r ∧ (r = true → ∀ x ∈ l, okLit m x) := by
  intro d
  induction d with
  | zero =>
   intro i hi hle hq
   refine ⟨true, Ev.step (f := fun _ => some true) (fun k => by rw [soriteslaw11_Fine.l0, if_neg (by omega)]) (Ev.now _), fun _ => ?_⟩
   rw [List.take_of_length_le (by omega)] at hq
   exact hq
  | succ d ih =>
   intro i hi hle hq
   have hlt : i < l.length := by omega
   obtain ⟨r1, he1, _, _, hr1⟩ := Small_spec 9 l[i].f1 (m : Int) 8 (by omega) (by omega) (by omega) (by omega)
   obtain ⟨r2, he2, _, _, hr2⟩ := Small_spec 9 l[i].f2 (m : Int) 8 (by omega) (by omega) (by omega) (by omega)
   have hst : ∀ k, soriteslaw11_Fine.l0 (k + 1) l (m : Int) (i : Int) = (soriteslaw06_Small.f k l[i].f1.f0 l[i].f1.f1 (m : Int) 8).bind fun t => if t < 0 then some false else ((soriteslaw06_Small.f k l[i].f2.f0 l[i].f2.f1 (m : Int) 8).bind fun t => if t < 0 then some false else soriteslaw11_Fine.l0 k l (m : Int) ((i + 1 : Nat) : Int)) := fun k => by
    rw [soriteslaw11_Fine.l0, if_pos (by omega), if_pos (by omega), rd81_at l i hlt, wsucc i l.length hlt (by omega)]
   by_cases h1 : r1 < 0
   ·refine ⟨false, Ev.step hst (Ev.bind he1 ?_), fun h => by cases h⟩
    simp only [if_pos h1]
    exact Ev.now _
   by_cases h2 : r2 < 0
   ·refine ⟨false, Ev.step hst (Ev.bind he1 ?_), fun h => by cases h⟩
    simp only [if_neg h1]
    refine Ev.bind he2 ?_
    simp only [if_pos h2]
    exact Ev.now _
   obtain ⟨r, he, h3⟩ := ih (i + 1) (by omega) (by omega) (fun x hx => by
    rw [List.take_succ_eq_append_getElem hlt] at hx
    rcases List.mem_append.1 hx with hx | hx
    ·exact hq x hx
    ·rw [List.mem_singleton] at hx
     subst hx
     have h4 := hr1 (by omega)
     have h5 := hr2 (by omega)
     exact ⟨h4.1, by omega, h5.1, by omega⟩)
   refine ⟨r, Ev.step hst (Ev.bind he1 ?_), h3⟩
   simp only [if_neg h1]
   refine Ev.bind he2 ?_
   simp only [if_neg h2]
   exact he
 obtain ⟨r, he, h⟩ := hloop l.length 0 rfl (by omega) (fun x hx => by simp at hx)
 refine ⟨r, Ev.congr (f := fun k => soriteslaw11_Fine.l0 k l (m : Int) ((0 : Nat) : Int)) (fun k => by rw [soriteslaw11_Fine.f, if_neg hl]; rfl) he, fun hr => ⟨by omega, h hr⟩⟩
theorem S78.eta (x : S78) : (⟨x.f0, x.f1, x.f2⟩ : S78) = x := by cases x; rfl
theorem Of11_spec (l : List S81) (hl : l.length ≤ 1000) (hok : ∀ x ∈ l, ok x.f1 ∧ ok x.f2) : Ev (fun k => soriteslaw11_Of.f k l) l := by
 have hloop : ∀ (m i : Nat), l.length - i = m → i ≤ l.length → Ev (fun k => soriteslaw11_Of.l0 k l (l.take i) (i : Int)) l := by
  intro m
  induction m with
  | zero =>
   intro i hi hle
   refine Ev.step (f := fun _ => some l) (fun k => ?_) (Ev.now _)
   rw [soriteslaw11_Of.l0, if_neg (by omega), List.take_of_length_le (by omega)]
  | succ m ihm =>
   intro i hi hle
   have hlt : i < l.length := by omega
   obtain ⟨h1, h2⟩ := hok _ (List.getElem_mem hlt)
   refine Ev.step (f := fun k => (soriteslaw06_Of.f k l[i].f1.f0 l[i].f1.f1).bind fun t => (soriteslaw06_Of.f k l[i].f2.f0 l[i].f2.f1).bind fun s => if (l.take i).length < 1954687338268 then soriteslaw11_Of.l0 k l (l.take i ++ [(⟨l[i].f0, (⟨t.1, t.2⟩ : S30), (⟨s.1, s.2⟩ : S30)⟩ : S78)]) ((i + 1 : Nat) : Int) else none) (fun k => ?_) (Ev.bind (Of_spec l[i].f1 h1) (Ev.bind (Of_spec l[i].f2 h2) ?_))
   ·rw [soriteslaw11_Of.l0, if_pos (by omega), if_pos (by omega), rd81_at l i hlt, wsucc i l.length hlt (by omega)]
   ·simp only [List.length_take]
    simp only [if_pos (show min i l.length < 1954687338268 by omega)]
    have := ihm (i + 1) (by omega) (by omega)
    rw [List.take_succ_eq_append_getElem hlt] at this
    simp only [S30.eta, S78.eta]
    exact this
 exact hloop l.length 0 rfl (by omega)
theorem grL_irrefl (x : S78) : grL x x = false := multi_irrefl _
theorem grL_trans (x y z : S78) (h : grL x y = true) (k : grL y z = true) : grL x z = true := multi_trans _ _ _ h k
def gstL (l : List S78) (y : S78) : Bool := !(l.any fun x => grL x y)
theorem gr78_of {x y : S78} (hx : fitL x) (hy : fitL y) : gr78 x y = some (grL x y) := OGreater_of hx hy
theorem OGreatest_of {l : List S78} (hl : ∀ x ∈ l, fitL x) (i : Nat) (hi : i < l.length) : order_Greatest.f l (i : Int) = some (gstL l l[i]) := by
 have hfi := hl _ (List.getElem_mem hi)
 unfold order_Greatest.f
 rw [if_neg (by omega), rd78_at l i hi, if_pos (List.all_eq_true.2 (fun x hx => by rw [gr78_of (hl x hx) hfi]; rfl))]
 congr 2
 rw [Bool.eq_iff_iff, List.any_eq_true, List.any_eq_true]
 constructor
 ·rintro ⟨x, hx, h⟩
  rw [gr78_of (hl x hx) hfi] at h
  exact ⟨x, hx, by simpa using h⟩
 ·rintro ⟨x, hx, h⟩
  exact ⟨x, hx, by rw [gr78_of (hl x hx) hfi, h]; rfl⟩
theorem RGreatest_spec {l : List S78} (hl : ∀ x ∈ l, fitL x) (hn : l.length ≤ 1000000) (i : Nat) (hi : i < l.length) : Ev (fun k => soritesref14_Greatest.f k l (i : Int)) (gstL l l[i]) := by
 have key : ∀ (n j : Nat), l.length - j = n → j ≤ l.length → Ev (fun k => soritesref14_Greatest.l0 k l (i : Int) (j : Int)) (!((l.drop j).any fun x => grL x l[i])) := by
  intro n
  induction n with
  | zero =>
   intro j hj hle
   refine Ev.step (f := fun _ => some true) (fun k => by rw [soritesref14_Greatest.l0, if_neg (by omega)]) ?_
   rw [List.drop_of_length_le (by omega)]
   exact Ev.now _
  | succ n ihn =>
   intro j hj hle
   have hlt : j < l.length := by omega
   rw [List.drop_eq_getElem_cons hlt, List.any_cons]
   refine Ev.step (f := fun k => (soritesref14_Greater.f k l[j].f0 l[j].f1.f0 l[j].f1.f1 l[j].f2.f0 l[j].f2.f1 l[i].f0 l[i].f1.f0 l[i].f1.f1 l[i].f2.f0 l[i].f2.f1).bind fun t => if t = true then some false else soritesref14_Greatest.l0 k l (i : Int) ((j + 1 : Nat) : Int)) (fun k => ?_) (Ev.bind (RGreaterL_spec (hl _ (List.getElem_mem hlt)) (hl _ (List.getElem_mem hi))) ?_)
   ·rw [soritesref14_Greatest.l0, if_pos (by omega), if_pos (by omega), if_pos (by omega), if_pos (by omega), rd81_at l j hlt, rd81_at l i hi, wsucc j l.length hlt (by omega)]
   ·cases hg : grL l[j] l[i] with
    | true => simp only [if_true, Bool.true_or]; exact Ev.now _
    | false => simp only [Bool.false_eq_true, if_false, Bool.false_or]; exact ihn (j + 1) (by omega) (by omega)
 exact key l.length 0 rfl (by omega)
def wtL (x : S78) : Nat := (nodes x.f1).length + (nodes x.f2).length
theorem OWeight_of {x : S78} (h : fitL x) : order_weight.f x.f0 x.f1.f0 x.f1.f1 x.f2.f0 x.f2.f1 = some (wtL x : Int) := by
 unfold order_weight.f
 rw [Size_fit h.1, Option.bind_some, Size_fit h.2, Option.bind_some]
 have := h.1.1
 have := h.2.1
 rw [w64 _ (by omega)]
 unfold wtL
 rw [Int.natCast_add]
theorem RWeight_spec {x : S78} (h : fitL x) : Ev (fun k => soritesref14_weight.f k x.f0 x.f1.f0 x.f1.f1 x.f2.f0 x.f2.f1) (wtL x : Int) := by
 unfold soritesref14_weight.f
 refine Ev.bind (RFlat_spec x.f1 h.1) (Ev.bind (RFlat_spec x.f2 h.2) ?_)
 have := h.1.1
 have := h.2.1
 rw [w64 _ (by omega)]
 unfold wtL
 rw [Int.natCast_add]
 exact Ev.now _
theorem wt_pos' (x : S78) : 0 < wtL x := by unfold wtL; have := nodes_pos x.f1; omega
def col (l : List S78) : Nat → Nat → List Int
 | 0, _ => []
 | n + 1, i => if gstL l (l.getD i z78) = true then (i : Int) :: col l n (i + 1) else col l n (i + 1)
theorem getD_at (l : List S78) (i : Nat) (h : i < l.length) : l.getD i z78 = l[i] := by simp [List.getD, List.getElem?_eq_getElem h]
theorem Ocol {l : List S78} (hl : ∀ x ∈ l, fitL x) (hn : l.length ≤ 1000000) : ∀ (n i : Nat), l.length - i = n → i ≤ l.length → ∀ o : List Int, o.length ≤ i → Ev (fun k => order_Looked.l1 k l o (l.length : Int) (i : Int)) (o ++ col l n i) := by
 intro n
 induction n with
 | zero =>
  intro i hi hle o ho
  refine Ev.step (f := fun _ => some o) (fun k => by rw [order_Looked.l1, if_neg (by omega)]) ?_
  rw [col, List.append_nil]
  exact Ev.now _
 | succ n ihn =>
  intro i hi hle o ho
  have hlt : i < l.length := by omega
  rw [col, getD_at l i hlt]
  cases hg : gstL l l[i] with
  | true =>
   refine Ev.step (f := fun k => order_Looked.l1 k l (o ++ [(i : Int)]) (l.length : Int) ((i + 1 : Nat) : Int)) (fun k => ?_) ?_
   ·rw [order_Looked.l1, if_pos (by omega), OGreatest_of hl i hlt, Option.bind_some, if_pos hg, if_pos (by omega), wsucc i l.length hlt (by omega)]
   ·have := ihn (i + 1) (by omega) (by omega) (o ++ [(i : Int)]) (by rw [List.length_append, List.length_singleton]; omega)
    rw [List.append_assoc] at this
    exact this
  | false =>
   refine Ev.step (f := fun k => order_Looked.l1 k l o (l.length : Int) ((i + 1 : Nat) : Int)) (fun k => ?_) (ihn (i + 1) (by omega) (by omega) o (by omega))
   rw [order_Looked.l1, if_pos (by omega), OGreatest_of hl i hlt, Option.bind_some, if_neg (by rw [hg]; decide), wsucc i l.length hlt (by omega)]
theorem Rcol {l : List S78} (hl : ∀ x ∈ l, fitL x) (hn : l.length ≤ 1000000) : ∀ (n i : Nat), l.length - i = n → i ≤ l.length → ∀ o : List Int, o.length ≤ i → Ev (fun k => soritesref14_Looked.l1 k l 0 o (i : Int)) (o ++ col l n i) := by
 intro n
 induction n with
 | zero =>
  intro i hi hle o ho
  refine Ev.step (f := fun _ => some o) (fun k => by rw [soritesref14_Looked.l1, if_neg (by omega)]) ?_
  rw [col, List.append_nil]
  exact Ev.now _
 | succ n ihn =>
  intro i hi hle o ho
  have hlt : i < l.length := by omega
  rw [col, getD_at l i hlt]
  refine Ev.step (f := fun k => soritesref14_Looked.j2 k l 0 o (i : Int) false) (fun k => by rw [soritesref14_Looked.l1, if_pos (by omega), if_neg (by decide)]) ?_
  refine Ev.step (f := fun k => (soritesref14_Greatest.f k l (i : Int)).bind fun t => if t = true then (if o.length < 17592186044416 then soritesref14_Looked.l1 k l 0 (o ++ [(i : Int)]) ((i + 1 : Nat) : Int) else none) else soritesref14_Looked.l1 k l 0 o ((i + 1 : Nat) : Int)) (fun k => ?_) (Ev.bind (RGreatest_spec hl hn i hlt) ?_)
  ·rw [soritesref14_Looked.j2, if_neg (by decide), if_pos rfl, wsucc i l.length hlt (by omega)]
  ·cases hg : gstL l l[i] with
   | true =>
    simp only [if_true, if_pos (show o.length < 17592186044416 by omega)]
    have := ihn (i + 1) (by omega) (by omega) (o ++ [(i : Int)]) (by rw [List.length_append, List.length_singleton]; omega)
    rw [List.append_assoc] at this
    exact this
   | false =>
    simp only [Bool.false_eq_true, if_false]
    exact ihn (i + 1) (by omega) (by omega) o (by omega)
theorem col_pos (l : List S78) : ∀ (n i j : Nat), i ≤ j → j < i + n → gstL l (l.getD j z78) = true → col l n i ≠ []
 | 0, i, j, h1, h2, _ => by omega
 | n + 1, i, j, h1, h2, h3 => by
  rw [col]
  split
  ·exact List.cons_ne_nil _ _
  ·rename_i h
   have : i ≠ j := fun e => h (by rw [e]; exact h3)
   exact col_pos l n (i + 1) j (by omega) (by omega) h3
end
section
def IsBest (l : List S78) (i b : Nat) : Prop := b < i ∧ (l.getD b z78).f0 = true ∧ (∀ j, j < i → (l.getD j z78).f0 = true → wtL (l.getD j z78) ≤ wtL (l.getD b z78)) ∧ ∀ j, j < b → (l.getD j z78).f0 = true → wtL (l.getD j z78) < wtL (l.getD b z78)
def NoNeg (l : List S78) (i : Nat) : Prop := ∀ j, j < i → (l.getD j z78).f0 = false
def InvB (l : List S78) (i : Nat) (x : Int) : Prop := (x = -1 ∧ NoNeg l i) ∨ ∃ b : Nat, x = (b : Int) ∧ IsBest l i b
def InvM (l : List S78) (i : Nat) (m : Int) : Prop := (m = 0 ∧ NoNeg l i) ∨ ∃ b : Nat, m = (wtL (l.getD b z78) : Int) ∧ IsBest l i b
theorem lt_succ_cases {P : Nat → Prop} {i : Nat} (h : ∀ j, j < i → P j) (hi : P i) : ∀ j, j < i + 1 → P j := fun j hj => by
 rcases Nat.lt_or_ge j i with h1 | h1
 ·exact h j h1
 ·rw [show j = i by omega]; exact hi
theorem IsBest.keep {l : List S78} {i b : Nat} (h : IsBest l i b) (hn : (l.getD i z78).f0 = true → wtL (l.getD i z78) ≤ wtL (l.getD b z78)) : IsBest l (i + 1) b :=
 ⟨by have := h.1; omega, h.2.1, lt_succ_cases h.2.2.1 hn, h.2.2.2⟩
theorem IsBest.new {l : List S78} {i b : Nat} (h : IsBest l i b) (hi : (l.getD i z78).f0 = true) (hn : wtL (l.getD b z78) < wtL (l.getD i z78)) : IsBest l (i + 1) i :=
 ⟨Nat.lt_succ_self _, hi, lt_succ_cases (fun j hj hjn => by have := h.2.2.1 j hj hjn; omega) (fun _ => Nat.le_refl _), fun j hj hjn => by have := h.2.2.1 j hj hjn; omega⟩
theorem IsBest.first {l : List S78} {i : Nat} (h : NoNeg l i) (hi : (l.getD i z78).f0 = true) : IsBest l (i + 1) i :=
 ⟨Nat.lt_succ_self _, hi, lt_succ_cases (fun j hj hjn => by rw [h j hj] at hjn; cases hjn) (fun _ => Nat.le_refl _), fun j hj hjn => by rw [h j hj] at hjn; cases hjn⟩
theorem IsBest.uniq {l : List S78} {i b c : Nat} (h : IsBest l i b) (k : IsBest l i c) : b = c := by
 rcases Nat.lt_trichotomy b c with hlt | he | hlt
 ·have h1 := k.2.2.2 b hlt h.2.1
  have h2 := h.2.2.1 c k.1 k.2.1
  omega
 ·exact he
 ·have h1 := h.2.2.2 c hlt k.2.1
  have h2 := k.2.2.1 b h.1 h.2.1
  omega
theorem Obest {l : List S78} (hl : ∀ x ∈ l, fitL x) (hn : l.length ≤ 1000000) : ∀ (n i : Nat), l.length - i = n → i ≤ l.length → ∀ x : Int, InvB l i x → ∃ x', InvB l l.length x' ∧ ∀ r, Ev (fun k => order_Looked.l0 k l x' l (l.length : Int) (l.length : Int)) r → Ev (fun k => order_Looked.l0 k l x l (l.length : Int) (i : Int)) r := by
 intro n
 induction n with
 | zero =>
  intro i hi hle x hx
  have : i = l.length := by omega
  subst this
  exact ⟨x, hx, fun r h => h⟩
 | succ n ihn =>
  intro i hi hle x hx
  have hlt : i < l.length := by omega
  have hfi := hl _ (List.getElem_mem hlt)
  have hgi := getD_at l i hlt
  have go : ∀ x2, InvB l (i + 1) x2 → (∀ r, Ev (fun k => order_Looked.l0 k l x2 l (l.length : Int) ((i + 1 : Nat) : Int)) r → Ev (fun k => order_Looked.l0 k l x l (l.length : Int) (i : Int)) r) → ∃ x', InvB l l.length x' ∧ ∀ r, Ev (fun k => order_Looked.l0 k l x' l (l.length : Int) (l.length : Int)) r → Ev (fun k => order_Looked.l0 k l x l (l.length : Int) (i : Int)) r := fun x2 h2 hs => by
   obtain ⟨x', h1, h3⟩ := ihn (i + 1) (by omega) (by omega) x2 h2
   exact ⟨x', h1, fun r h => hs r (h3 r h)⟩
  by_cases hneg : l[i].f0 = true
  ·rcases hx with ⟨rfl, hno⟩ | ⟨b, rfl, hb⟩
   ·refine go (i : Int) (.inr ⟨i, rfl, IsBest.first hno (by rw [hgi]; exact hneg)⟩) (fun r h => Ev.step (fun k => ?_) h)
    rw [order_Looked.l0, if_pos (by omega), if_pos (by omega), if_pos (by omega), rd78_at l i hlt, if_pos hneg, if_pos (by decide), wsucc i l.length hlt (by omega)]
   ·have hbl : b < l.length := by have := hb.1; omega
    have hfb := hl _ (List.getElem_mem hbl)
    have hgb := getD_at l b hbl
    by_cases hw : wtL l[b] < wtL l[i]
    ·refine go (i : Int) (.inr ⟨i, rfl, hb.new (by rw [hgi]; exact hneg) (by rw [hgi, hgb]; exact hw)⟩) (fun r h => Ev.step (fun k => ?_) h)
     rw [order_Looked.l0, if_pos (by omega), if_pos (by omega), if_pos (by omega), rd78_at l i hlt, if_pos hneg, if_neg (by omega), OWeight_of hfi, Option.bind_some, if_pos (by omega), if_pos (by omega), rd78_at l b hbl, OWeight_of hfb, Option.bind_some, if_pos (by omega), wsucc i l.length hlt (by omega)]
    ·refine go (b : Int) (.inr ⟨b, rfl, hb.keep (fun _ => by rw [hgi, hgb]; omega)⟩) (fun r h => Ev.step (fun k => ?_) h)
     rw [order_Looked.l0, if_pos (by omega), if_pos (by omega), if_pos (by omega), rd78_at l i hlt, if_pos hneg, if_neg (by omega), OWeight_of hfi, Option.bind_some, if_pos (by omega), if_pos (by omega), rd78_at l b hbl, OWeight_of hfb, Option.bind_some, if_neg (by omega), wsucc i l.length hlt (by omega)]
  ·have hnf : (l.getD i z78).f0 = false := by rw [hgi]; exact Bool.eq_false_iff.2 hneg
   refine go x ?_ (fun r h => Ev.step (fun k => ?_) h)
   ·rcases hx with ⟨rfl, hno⟩ | ⟨b, rfl, hb⟩
    ·exact .inl ⟨rfl, lt_succ_cases hno hnf⟩
    ·exact .inr ⟨b, rfl, hb.keep (fun h => by rw [hnf] at h; cases h)⟩
   ·rw [order_Looked.l0, if_pos (by omega), if_pos (by omega), if_pos (by omega), rd78_at l i hlt, if_neg hneg, wsucc i l.length hlt (by omega)]
theorem Rbest {l : List S78} (hl : ∀ x ∈ l, fitL x) (hn : l.length ≤ 1000000) : ∀ (n i : Nat), l.length - i = n → i ≤ l.length → ∀ x : Int, InvM l i x → ∃ x', InvM l l.length x' ∧ ∀ r, Ev (fun k => soritesref14_Looked.l0 k l x' (l.length : Int)) r → Ev (fun k => soritesref14_Looked.l0 k l x (i : Int)) r := by
 intro n
 induction n with
 | zero =>
  intro i hi hle x hx
  have : i = l.length := by omega
  subst this
  exact ⟨x, hx, fun r h => h⟩
 | succ n ihn =>
  intro i hi hle x hx
  have hlt : i < l.length := by omega
  have hfi := hl _ (List.getElem_mem hlt)
  have hgi := getD_at l i hlt
  have go : ∀ x2, InvM l (i + 1) x2 → (∀ r, Ev (fun k => soritesref14_Looked.l0 k l x2 ((i + 1 : Nat) : Int)) r → Ev (fun k => soritesref14_Looked.l0 k l x (i : Int)) r) → ∃ x', InvM l l.length x' ∧ ∀ r, Ev (fun k => soritesref14_Looked.l0 k l x' (l.length : Int)) r → Ev (fun k => soritesref14_Looked.l0 k l x (i : Int)) r := fun x2 h2 hs => by
   obtain ⟨x', h1, h3⟩ := ihn (i + 1) (by omega) (by omega) x2 h2
   exact ⟨x', h1, fun r h => hs r (h3 r h)⟩
  by_cases hneg : l[i].f0 = true
  ·have hst : ∀ k, soritesref14_Looked.l0 (k + 1) l x (i : Int) = (soritesref14_weight.f k l[i].f0 l[i].f1.f0 l[i].f1.f1 l[i].f2.f0 l[i].f2.f1).bind fun t => if t > x then ((soritesref14_weight.f k l[i].f0 l[i].f1.f0 l[i].f1.f1 l[i].f2.f0 l[i].f2.f1).bind fun t => soritesref14_Looked.l0 k l t ((i + 1 : Nat) : Int)) else soritesref14_Looked.l0 k l x ((i + 1 : Nat) : Int) := fun k => by
    rw [soritesref14_Looked.l0, if_pos (by omega), if_pos (by omega), rd81_at l i hlt, if_pos hneg, wsucc i l.length hlt (by omega)]
   by_cases hw : (wtL l[i] : Int) > x
   ·refine go (wtL l[i] : Int) (.inr ⟨i, by rw [hgi], ?_⟩) (fun r h => Ev.step hst (Ev.bind (RWeight_spec hfi) ?_))
    ·rcases hx with ⟨rfl, hno⟩ | ⟨b, rfl, hb⟩
     ·exact IsBest.first hno (by rw [hgi]; exact hneg)
     ·exact hb.new (by rw [hgi]; exact hneg) (by rw [hgi]; omega)
    ·simp only [if_pos hw]
     exact Ev.bind (RWeight_spec hfi) h
   ·refine go x ?_ (fun r h => Ev.step hst (Ev.bind (RWeight_spec hfi) ?_))
    ·rcases hx with ⟨rfl, hno⟩ | ⟨b, rfl, hb⟩
     ·have := wt_pos' l[i]
      omega
     ·exact .inr ⟨b, rfl, hb.keep (fun _ => by rw [hgi]; omega)⟩
    ·simp only [if_neg hw]
     exact h
  ·have hnf : (l.getD i z78).f0 = false := by rw [hgi]; exact Bool.eq_false_iff.2 hneg
   refine go x ?_ (fun r h => Ev.step (fun k => ?_) h)
   ·rcases hx with ⟨rfl, hno⟩ | ⟨b, rfl, hb⟩
    ·exact .inl ⟨rfl, lt_succ_cases hno hnf⟩
    ·exact .inr ⟨b, rfl, hb.keep (fun h => by rw [hnf] at h; cases h)⟩
   ·rw [soritesref14_Looked.l0, if_pos (by omega), if_pos (by omega), rd81_at l i hlt, if_neg hneg, wsucc i l.length hlt (by omega)]
theorem Rfind {l : List S78} (hl : ∀ x ∈ l, fitL x) (hn : l.length ≤ 1000000) {b : Nat} (hb : IsBest l l.length b) : ∀ (n i : Nat), b - i = n → i ≤ b → Ev (fun k => soritesref14_Looked.l1 k l (wtL (l.getD b z78) : Int) [] (i : Int)) [(b : Int)] := by
 have hpos := wt_pos' (l.getD b z78)
 have hbl := hb.1
 intro n
 induction n with
 | zero =>
  intro i hi hle
  have : i = b := by omega
  subst this
  have hfi := hl _ (List.getElem_mem hbl)
  have hgi := getD_at l i hbl
  have hneg : l[i].f0 = true := by rw [← hgi]; exact hb.2.1
  refine Ev.step (f := fun k => (soritesref14_weight.f k l[i].f0 l[i].f1.f0 l[i].f1.f1 l[i].f2.f0 l[i].f2.f1).bind fun t => soritesref14_Looked.j2 k l (wtL (l.getD i z78) : Int) [] (i : Int) (t == (wtL (l.getD i z78) : Int))) (fun k => ?_) (Ev.bind (RWeight_spec hfi) ?_)
  ·rw [soritesref14_Looked.l1, if_pos (by omega), if_pos (by omega), if_pos (by omega), rd81_at l i hbl, if_pos hneg]
  ·rw [hgi]
   exact Ev.step (f := fun _ => some [(i : Int)]) (fun k => by rw [soritesref14_Looked.j2, if_pos (beq_self_eq_true _)]) (Ev.now _)
 | succ n ihn =>
  intro i hi hle
  have hlt : i < b := by omega
  have hil : i < l.length := by omega
  have hfi := hl _ (List.getElem_mem hil)
  have hgi := getD_at l i hil
  have hskip : Ev (fun k => soritesref14_Looked.j2 k l (wtL (l.getD b z78) : Int) [] (i : Int) false) [(b : Int)] := by
   refine Ev.step (f := fun k => soritesref14_Looked.l1 k l (wtL (l.getD b z78) : Int) [] ((i + 1 : Nat) : Int)) (fun k => ?_) (ihn (i + 1) (by omega) (by omega))
   rw [soritesref14_Looked.j2, if_neg (by decide), if_neg (by omega), wsucc i l.length hil (by omega)]
  by_cases hneg : l[i].f0 = true
  ·refine Ev.step (f := fun k => (soritesref14_weight.f k l[i].f0 l[i].f1.f0 l[i].f1.f1 l[i].f2.f0 l[i].f2.f1).bind fun t => soritesref14_Looked.j2 k l (wtL (l.getD b z78) : Int) [] (i : Int) (t == (wtL (l.getD b z78) : Int))) (fun k => ?_) (Ev.bind (RWeight_spec hfi) ?_)
   ·rw [soritesref14_Looked.l1, if_pos (by omega), if_pos (by omega), if_pos (by omega), rd81_at l i hil, if_pos hneg]
   ·have hw := hb.2.2.2 i hlt (by rw [hgi]; exact hneg)
    rw [hgi] at hw
    have hne : ((wtL l[i] : Int) == (wtL (l.getD b z78) : Int)) = false := by rw [beq_eq_false_iff_ne]; omega
    simp only [hne]
    exact hskip
  ·refine Ev.step (f := fun k => soritesref14_Looked.j2 k l (wtL (l.getD b z78) : Int) [] (i : Int) false) (fun k => ?_) hskip
   rw [soritesref14_Looked.l1, if_pos (by omega), if_pos (by omega), if_pos (by omega), rd81_at l i hil, if_neg hneg]
theorem Looked_spec {l : List S78} (hl : ∀ x ∈ l, fitL x) (hn : l.length ≤ 1000000) : ∃ o : List Int, Ev (fun k => order_Looked.f k l) o ∧ Ev (fun k => soritesref14_Looked.f k l) o ∧ (0 < o.length ↔ 0 < l.length) ∧ ((∃ b : Nat, IsBest l l.length b ∧ o = [(b : Int)]) ∨ (NoNeg l l.length ∧ o = col l l.length 0)) ∧ o.length ≤ l.length := by
 obtain ⟨x, hx, hxs⟩ := Obest hl hn l.length 0 rfl (Nat.zero_le _) (-1) (.inl ⟨rfl, fun j hj => absurd hj (Nat.not_lt_zero _)⟩)
 obtain ⟨m, hm, hms⟩ := Rbest hl hn l.length 0 rfl (Nat.zero_le _) 0 (.inl ⟨rfl, fun j hj => absurd hj (Nat.not_lt_zero _)⟩)
 have hcl : ∀ n i, (col l n i).length ≤ n := by
  intro n
  induction n with
  | zero => intro i; exact Nat.le_refl _
  | succ n ih => intro i; have := ih (i + 1); rw [col]; split; (rw [List.length_cons]; omega); omega
 rcases hx with ⟨rfl, hno⟩ | ⟨b, rfl, hb⟩
 ·rcases hm with ⟨rfl, _⟩ | ⟨c, rfl, hc⟩
  ·refine ⟨col l l.length 0, hxs _ ?_, hms _ ?_, ⟨fun h => ?_, fun h => ?_⟩, .inr ⟨hno, rfl⟩, hcl _ _⟩
   ·refine Ev.step (f := fun k => order_Looked.l1 k l [] (l.length : Int) ((0 : Nat) : Int)) (fun k => by rw [order_Looked.l0, if_neg (by omega), if_neg (by decide)]; rfl) ?_
    exact Ocol hl hn l.length 0 rfl (Nat.zero_le _) [] (Nat.le_refl _)
   ·refine Ev.step (f := fun k => soritesref14_Looked.l1 k l 0 [] ((0 : Nat) : Int)) (fun k => by rw [soritesref14_Looked.l0, if_neg (by omega)]; rfl) ?_
    exact Rcol hl hn l.length 0 rfl (Nat.zero_le _) [] (Nat.le_refl _)
   ·rcases Nat.eq_zero_or_pos l.length with h0 | h0
    ·rw [h0] at h; exact absurd h (Nat.lt_irrefl _)
    ·exact h0
   ·obtain ⟨x, hx, _, hmax⟩ := ex_max grL grL_irrefl grL_trans (fun _ => True) l ⟨l[0], List.getElem_mem h, trivial⟩
    obtain ⟨j, hj, rfl⟩ := List.getElem_of_mem hx
    have hg : gstL l (l.getD j z78) = true := by
     rw [getD_at l j hj]
     unfold gstL
     rw [Bool.not_eq_true', List.any_eq_false]
     intro z hz
     rw [hmax z hz trivial]
     decide
    exact List.length_pos_iff.2 (col_pos l l.length 0 j (Nat.zero_le _) (by omega) hg)
  ·have := hno c hc.1
   rw [hc.2.1] at this
   cases this
 ·rcases hm with ⟨rfl, hno⟩ | ⟨c, rfl, hc⟩
  ·have := hno b hb.1
   rw [hb.2.1] at this
   cases this
  ·have hbc := hb.uniq hc
   subst hbc
   refine ⟨[(b : Int)], hxs _ ?_, hms _ ?_, ⟨fun _ => by have := hb.1; omega, fun _ => Nat.zero_lt_one⟩, .inl ⟨b, hb, rfl⟩, by have := hb.1; rw [List.length_singleton]; omega⟩
   ·exact Ev.step (f := fun _ => some [(b : Int)]) (fun k => by rw [order_Looked.l0, if_neg (by omega), if_pos (by omega)]) (Ev.now _)
   ·exact Ev.step (f := fun k => soritesref14_Looked.l1 k l (wtL (l.getD b z78) : Int) [] ((0 : Nat) : Int)) (fun k => by rw [soritesref14_Looked.l0, if_neg (by omega)]; rfl) (Rfind hl hn hb b 0 (by omega) (Nat.zero_le _))
theorem SameInts_spec (o : List Int) (h : o.length ≤ 1000000) : Ev (fun k => soritesref14_SameInts.f k o o) true := by
 have key : ∀ (n i : Nat), o.length - i = n → i ≤ o.length → Ev (fun k => soritesref14_SameInts.l0 k o o (i : Int)) true := by
  intro n
  induction n with
  | zero => intro i hi hle; exact Ev.step (f := fun _ => some true) (fun k => by rw [soritesref14_SameInts.l0, if_neg (by omega)]) (Ev.now _)
  | succ n ih =>
   intro i hi hle
   refine Ev.step (f := fun k => soritesref14_SameInts.l0 k o o ((i + 1 : Nat) : Int)) (fun k => ?_) (ih (i + 1) (by omega) (by omega))
   rw [soritesref14_SameInts.l0, if_pos (by omega), if_pos (by omega), if_pos (by omega), if_pos rfl, wsucc i o.length (by omega) (by omega)]
 refine Ev.congr (f := fun k => soritesref14_SameInts.l0 k o o ((0 : Nat) : Int)) (fun k => by rw [soritesref14_SameInts.f, if_pos rfl]; rfl) (key o.length 0 rfl (Nat.zero_le _))
theorem alive14 : Ev (fun k => soriteslaw14_alive.f k) true := by
 have f1 : fit ⟨1, []⟩ := fitB_iff _ |>.1 (by decide)
 have f2 : fit ⟨2, []⟩ := fitB_iff _ |>.1 (by decide)
 have f0 : fit ⟨0, []⟩ := fitB_iff _ |>.1 (by decide)
 obtain ⟨o, h1, _, _, h2, _⟩ := Looked_spec (l := [⟨false, ⟨1, []⟩, ⟨0, []⟩⟩, ⟨true, ⟨2, []⟩, ⟨0, []⟩⟩]) (by intro x hx; rcases List.mem_cons.1 hx with rfl | hx; exact ⟨f1, f0⟩; rw [List.mem_singleton] at hx; subst hx; exact ⟨f2, f0⟩) (by decide)
 obtain ⟨o2, g1, _, g2, _, _⟩ := Looked_spec (l := []) (by intro x hx; cases hx) (by decide)
 have ho : o = [1] := by
  rcases h2 with ⟨b, hb, rfl⟩ | ⟨hno, _⟩
  ·have hb1 : b < 2 := hb.1
   have hb2 := hb.2.1
   have : b = 1 := by
    rcases (show b = 0 ∨ b = 1 by omega) with rfl | rfl
    ·cases hb2
    ·rfl
   subst this
   rfl
  ·have := hno 1 (by decide)
   cases this
 have ho2 : o2 = [] := by
  cases o2 with
  | nil => rfl
  | cons y r => exact absurd (g2.1 (by simp)) (Nat.lt_irrefl _)
 subst ho ho2
 unfold soriteslaw14_alive.f
 refine Ev.bind h1 ?_
 exact Ev.congr (f := fun n => (order_Looked.f n []).bind fun t385 => some ((t385.length : Int) == 0)) (fun n => by rw [if_pos (by decide), if_pos (by decide), if_pos (by decide)]) (Ev.bind g1 (Ev.now _))
theorem OrderLooks_law (l : List S81) (i : Int) : Ev (fun k => soriteslaw14_OrderLooks.f k l i) true := by
 unfold soriteslaw14_OrderLooks.f
 refine Ev.bind alive14 ?_
 simp only [if_true]
 obtain ⟨r, hr, hok⟩ := Fine11_spec l 6 12 (by decide) (by decide)
 refine Ev.bind hr ?_
 cases r with
 | false => simp only [Bool.false_eq_true, if_false]; exact Ev.now _
 | true =>
  simp only [if_true]
  obtain ⟨hn, hl⟩ := hok rfl
  have hfl : ∀ x ∈ l, fitL x := fun x hx => (hl x hx).fit (by decide)
  refine Ev.bind (Of11_spec l (by omega) (fun x hx => ⟨(hl x hx).1, (hl x hx).2.2.1⟩)) ?_
  obtain ⟨o, h1, h2, h3, _, h5⟩ := Looked_spec hfl (by omega)
  have hlast : (decide ((o.length : Int) > 0) == decide ((l.length : Int) > 0)) = true := by
   rw [beq_iff_eq, decide_eq_decide]
   omega
  have fin : ∀ b, order_Greatest.f l i = some b → Ev (fun k => soriteslaw14_OrderLooks.j0 k l i l b) true := fun b hb => by
   refine Ev.step (f := fun k => (order_Looked.f k l).bind fun t476 => ((order_Greatest.f l i).bind fun t479 => (if (t479 == b) = true then ((soritesref14_Looked.f k l).bind fun t480 => ((soritesref14_SameInts.f k t476 t480).bind fun t483 => (if t483 = true then (some ((decide ((t476.length : Int) > 0)) == (decide ((l.length : Int) > 0)))) else (some false)))) else (some false)))) (fun k => by rw [soriteslaw14_OrderLooks.j0]) ?_
   refine Ev.bind h1 ?_
   rw [hb]
   simp only [Option.bind_some, beq_self_eq_true, if_true]
   refine Ev.bind h2 (Ev.bind (SameInts_spec o (by omega)) ?_)
   simp only [if_true]
   rw [hlast]
   exact Ev.now _
  by_cases h0 : i ≥ 0
  ·simp only [if_pos h0]
   by_cases hi : i < (l.length : Int)
   ·simp only [if_pos hi]
    obtain ⟨n, rfl⟩ : ∃ n : Nat, i = (n : Int) := ⟨i.toNat, by omega⟩
    have hnl : n < l.length := by omega
    exact Ev.bind (RGreatest_spec hfl (by omega) n hnl) (fin _ (OGreatest_of hfl n hnl))
   ·simp only [if_neg hi]
    exact fin _ (by unfold order_Greatest.f; rw [if_pos (.inr (by omega))])
  ·simp only [if_neg h0]
   exact fin _ (by unfold order_Greatest.f; rw [if_pos (.inl (by omega))])
theorem OrderLooks_walk (l : List S81) (i : Int) (A : Option Addr) (c : Nat) (w : World) (hA : k81.C w A l.length l) (hc : l.length ≤ c) :
  Calls Try.prog 15 #[.slice A l.length c, .int .i64 i] w fun e w' => e = .returned (.bool true) ∧ Below w.heap.size w w' := by
 obtain ⟨k, hk⟩ := (OrderLooks_law l i).rounds
 exact soriteslaw14_OrderLooks.calls k A c l i true w hA hc hk
end
end Go.Proofs.Ytpfddihcikiofaa.P
section
namespace Go.Proofs.Ytpfddihcikiofaa.orderLooks
open Go.ChangeShapes Go.WideShapes Go.ChangeAt Go.RowKit
set_option linter.unusedVariables false
theorem own : ownKnob Try.prog.godebug = none := by kernel_rfl
theorem laidOut : laidOutB Try.prog = true := by kernel_rfl
set_option maxRecDepth 100000 in
theorem lifted (os : Os) (started : os.Started) (H : Type) (enc : TypeId × Value → H) :
  ReturnsInHanded {} Try.checked os 15 .any (Rows.orderLooksSpec.pre6 enc Try.prog Try.f15 Rows.orderLooksRow.domain false) (Rows.orderLooksSpec.post enc Try.prog Try.f15 false true false false) := by
 refine returnsInHanded_of_change_sized (C := Try.checked) own started (by kernel_rfl) Try.func15
  (ChangeSpec.witness6 (enc := enc) (C := Try.checked) false ⟨#[], #[.slice none 0 0, .int .i64 0], []⟩ 8 (by kernel_rfl) (by kernel_rfl) (by kernel_rfl) (by kernel_rfl)) ?_
 intro W base args ds gs before hval0 hW hcnd hsz0 _
 have hval : ∀ (j : Nat) t v, Try.f15.params[j]? = some t → args[j]? = some v → Value.okWide Try.prog W .any base t v := hval0
 have hW' := hW
 obtain ⟨p, q, hA0, hV, rfl, hfz, hnd⟩ := hW
 have hA : DataW.TrodAll enc Try.prog W 0 (fun _ => true) true Try.f15.params.toList args.toList ds p := hA0
 rw [Try.params15] at hA hval
 obtain ⟨v0, vs0, d0, ds0, p0, q0, hargs, rfl, rfl, h0, r0⟩ := trodAll_cons hA
 obtain ⟨v1, vs1, d1, ds1, p1, q1, rfl, rfl, rfl, h1, r1⟩ := trodAll_cons r0
 obtain ⟨rfl, rfl, rfl⟩ := trodAll_nil r1
 obtain rfl : args = #[v0, v1] := by cases args; simp_all
 obtain ⟨rfl, rfl⟩ := trodVars_none hV
 have k0 := h0
 have lt0 : ∀ x ∈ p0, x.block < W.heap.size := by obtain ⟨m, hm⟩ := k0; exact DataW.trod_lt m _ _ _ hm
 obtain ⟨t0, A0, c0, rfl, hc0, hC0⟩ := P.open_Lits (hval 0 65 v0 rfl rfl) h0
 obtain ⟨a1, rfl, rfl, rfl, w1⟩ := open_int Try.underlying3 (hval 1 3 v1 rfl rfl) h1
 clear hA0 hval0 hsz0
 refine (P.OrderLooks_walk t0 a1 A0 c0 W hC0 hc0).mono fun e W' ⟨he, bel⟩ => ?_
 subst he
 exact ⟨_, rfl, _, _, _, [], _, [], hW', trodAll_mk1 (shut_bool Try.underlying4 _), (trodAll_cons_mk (Below.trod laidOut (by kernel_rfl) (of_decide_eq_true (by kernel_rfl)) k0 bel lt0) (trodAll_cons_mk (shut_int Try.underlying3 w1) trodAll_mk0)), rfl, bel.frame _, fun h => by cases h⟩
theorem over : Rows.orderLooksRow.holds Try.pinned (OpenSpec.ofChange Rows.orderLooksSpec) :=
 OpenClaim.holds_of_wide 15 Try.f15 rfl rfl rfl rfl rfl rfl rfl ⟨rfl, rfl, rfl, rfl, rfl⟩ rfl rfl rfl rfl rfl (by kernel_rfl) Try.func15 (by kernel_rfl)
  (of_decide_eq_true (by kernel_rfl)) (by unfold Func.isWrapper; first | (rw [if_pos (by decide +kernel)]; kernel_rfl) | (rw [if_neg (by decide +kernel)]; exact ⟨rfl, rfl⟩))
  (fun os started H enc _ => lifted os started H enc)
end Go.Proofs.Ytpfddihcikiofaa.orderLooks
namespace Go.Proofs.Ytpfddihcikiofaa
theorem orderLooks_holds : Rows.OrderLooksSaid := orderLooks.over
#print axioms orderLooks_holds
end Go.Proofs.Ytpfddihcikiofaa
end
