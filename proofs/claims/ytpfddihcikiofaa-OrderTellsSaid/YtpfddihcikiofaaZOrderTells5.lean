/- The law OrderTells holds of every input. Part 5 of 6: PxSoritesref14Less, PxSoritesref14Multi, PxSoritesref14Greater, PxOrderTerms, PxOrderGreater, GSpec14, PxOrderWeight, GGreatest, PxOrderLooked, PxSoriteslaw14Alive, PxSoriteslaw11Fine, PxSoriteslaw11Of, PxSoritesref14Greatest, PxSoritesref14Weight. -/
import Derived.Test.YtpfddihcikiofaaZOrderTells2
import Derived.Test.YtpfddihcikiofaaZOrderTells3
import Derived.Test.YtpfddihcikiofaaZOrderTells4
import Derived.Shelf.Abstract
import Derived.Test.YtpfddihcikiofaaZOrderTells1
namespace Go.Proofs.Ytpfddihcikiofaa.P
open Go.RowKit Go.Proofs.YtpfddihcikiofaaW.PrintWords Go.Proofs.YtpfddihcikiofaaW.PrintLast Go.Proofs.YtpfddihcikiofaaW.PrintMore
set_option linter.unusedVariables false
set_option linter.unusedSimpArgs false
section
attribute [local go_sem] max2_int min2_int max_two min_two yal_ yak_ max_four min_four
mutual
def soritesref14_less.l0 : Nat → List (S24) → List (S24) → List Bool → List (S24) → Int → Option ((List (S24)))
 | 0, _, _, _, _, _ => none
 | k + 1, x0, x1, x5, x6, x7 => if x7 < (x0.length : Int) then (soritesref14_less.l1 k x0 x1 x5 x6 x7 false 0) else (some x6)
def soritesref14_less.l1 : Nat → List (S24) → List (S24) → List Bool → List (S24) → Int → Bool → Int → Option ((List (S24)))
 | 0, _, _, _, _, _, _, _ => none
 | k + 1, x0, x1, x5, x6, x7, x8, x9 => if x9 < (x1.length : Int) then (if x8 = true then (soritesref14_less.l1 k x0 x1 x5 x6 x7 x8 (wrap64 (x9 + 1))) else (if 0 ≤ x9 then (if x9 < (x5.length : Int) then (if rdOf false x5 x9 = true then (soritesref14_less.l1 k x0 x1 x5 x6 x7 x8 (wrap64 (x9 + 1))) else (if 0 ≤ x7 then (if x7 < (x0.length : Int) then ((soritesref06_Same.f k ((rd_T24 x0 x7).f0) ((rd_T24 x0 x7).f1) ((rd_T24 x1 x9).f0) ((rd_T24 x1 x9).f1)).bind fun t419 => (if t419 = true then (soritesref14_less.l1 k x0 x1 (x5.set (x9 : Int).toNat true) x6 x7 true (wrap64 (x9 + 1))) else (soritesref14_less.l1 k x0 x1 x5 x6 x7 x8 (wrap64 (x9 + 1))))) else (none)) else (none))) else (none)) else (none))) else (if x8 = true then (soritesref14_less.l0 k x0 x1 x5 x6 (wrap64 (x7 + 1))) else (if 0 ≤ x7 then (if x7 < (x0.length : Int) then (if x6.length < 4398046511104 then (soritesref14_less.l0 k x0 x1 x5 (x6 ++ [(⟨(rd_T24 x0 x7).f0, (rd_T24 x0 x7).f1⟩ : S24)]) (wrap64 (x7 + 1))) else (none)) else (none)) else (none)))
end
def soritesref14_less.f (k : Nat) (l0 : List (S24)) (l1 : List (S24)) : Option ((List (S24))) := if 0 ≤ (l1.length : Int) then (if ((l1.length : Int) : Int).toNat ≤ 281474976710656 then (soritesref14_less.l0 k l0 l1 (List.replicate ((l1.length : Int) : Int).toNat false) ([] : List (S24)) 0) else (none)) else (none)
def soritesref14_less.T10 : Bool × List (List Nat × List Nat) := (true, [([], []), ([0], [0]), ([1], [1]), ([2], [2]), ([2], [2]), ([3, 4, 2], [2, 3, 4]), ([5, 2], [2, 5]), ([6, 2], [2, 6]), ([2, 7], [2, 7]), ([8, 2], [8]), ([9], [9]), ([9], [9]), ([10, 11, 9], [9, 10, 11]), ([12, 9], [9, 12]), ([9], [9]), ([9], [9]), ([14, 15, 9], [9, 14, 15]), ([16, 9], [9, 16]), ([13, 17, 9, 9], [9, 13, 17]), ([9, 18], [9, 18])])
def soritesref14_less.B10 : List Nat := [0, 1, 3, 7, 7, 31, 63, 127, 255, 511, 1023, 1023, 4095, 8191, 1023, 1023, 50175, 115711, 262143, 524287]
theorem soritesref14_less.tab10 : rtab .any (opsOf Try.f101 10) = soritesref14_less.T10 := by kernel_rfl
theorem soritesref14_less.bits10 : waitsOk soritesref14_less.T10.2 soritesref14_less.B10 = true := by kernel_rfl
set_option maxHeartbeats 8000000 in
set_option maxRecDepth 100000 in
theorem soritesref14_less.calls (k : Nat) (P0_ : Nat → Prop) (A0 : Option Addr) (c0 : Nat) (l0 : List (S24)) (A1 : Option Addr) (c1 : Nat) (l1 : List (S24)) (r : List (S24)) (w : World) (hs0 : Kd.V k24 24 w w.heap.size (fun k_ => P0_ k_) (.slice A0 l0.length c0) l0) (hr1 : Kd.C k24 w A1 l1.length l1) (hc1 : l1.length ≤ c1) (h : soritesref14_less.f k l0 l1 = some r) :
  Calls Try.prog 101 #[.slice A0 l0.length c0, .slice A1 l1.length c1] w fun e w' => ∃ v0_ : Value, e = .returned (v0_) ∧ Kd.N k24 24 w' w.heap.size (fun k_ => (P0_ k_ ∨ w.heap.size ≤ k_)) v0_ r ∧ Below w.heap.size w w' := by
 have hu24 := Try.underlying24
 have HO0 := Az_.mk (show Kd.V k24 24 w w.heap.size (fun k_ => (P0_ k_ ∨ w.heap.size ≤ k_)) (.slice A0 l0.length c0) l0 from Kd.V_mono hs0 (fun k_ hk => .inl hk))
 have HR1 := Az_.mk hr1
 have HC1 := Az_.mk hc1
 clear hr1 hc1
 have HB := Az_.mk (Below.refl w.heap.size w)
 have H : (if 0 ≤ (l1.length : Int) then (if ((l1.length : Int) : Int).toNat ≤ 281474976710656 then (soritesref14_less.l0 k l0 l1 (List.replicate ((l1.length : Int) : Int).toNat false) ([] : List (S24)) 0) else (none)) else (none)) = some r := h
 clear h
 by_cases c3 : 0 ≤ (l1.length : Int)
 ·rw [if_pos c3] at H
  have c3b0 := eq_true c3
  have c3b1 : decide (0 ≤ (l1.length : Int)) = true := decide_eq_true c3
  clear c3
  by_cases c4 : ((l1.length : Int) : Int).toNat ≤ 281474976710656
  ·rw [if_pos c4] at H
   have c4b0 := eq_true c4
   have c4b1 : decide (((l1.length : Int) : Int).toNat ≤ 281474976710656) = true := decide_eq_true c4
   clear c4
   obtain ⟨y413, hy413⟩ : ∃ y_ : List Bool, y_ = (List.replicate ((l1.length : Int) : Int).toNat false) := ⟨_, rfl⟩
   replace H : (soritesref14_less.l0 k l0 l1 y413 ([] : List (S24)) 0) = some r := by first | (rw [hy413]; with_reducible exact H) | (have H2_ := (Option.bind_some _ _).symm.trans H; rw [hy413]; with_reducible exact H2_) | (have H2_ := (Option.bind_some _ _).symm.trans H; with_reducible exact H2_) | with_reducible exact H | (rw [hy413]; exact H) | exact H
   have Ny413 := Az_.mk hy413
   clear hy413
   have H' := Az_.mk H
   clear H
   go_enter Try.func101, Try.ntmps101
   go_wp2_with (first | ((with_reducible refine yag_ (N := 12) rfl ?_); refine Kd.R_make Kd.bool _ 4 rfl (N := 12) rfl 136 _ _ rfl (l1.length : Int) rfl rfl Try.underlying136 (.bool false) 1 info4 rfl (by decide) (by omega) false (ok := fun _ => True) (okp := fun _ => True) rfl (fun _ hk => hk) trivial (of_decide_eq_true (by first | (with_reducible assumption) | assumption)) (Nat.le_trans (Nat.mul_le_mul_right _ (of_decide_eq_true (by first | (with_reducible assumption) | assumption) : (l1.length : Int).toNat ≤ 281474976710656)) (by omega)) (Below.refl _ _) (Nat.le_refl _) ?_; intro v414 w5 ho6 hb hg_ hnew_; clear hg_ hnew_; (first | rw [← Ny413.out] at ho6 | (simp only [Int.reduceToNat] at ho6; rw [← Ny413.out] at ho6)); replace HO0 := Az_.mk (Kd.V_elder' (vq_ HO0) (Kd.R_base ho6) hb); have HO415 := Az_.mk (Kd.R_lower (Kd.R_newM (M := fun k_ => (w.heap.size ≤ k_)) ho6 (bZ_ (bq_ HB)) (fun k_ h_ => h_)) (bZ_ (bq_ HB))); replace HB := Az_.mk (bT_ (bq_ HB) hb); clear hb ho6))
   go_loopg [6, 7] k (fun kq v6 v7 w' => ∃ (x5_1 : List Bool) (x6_1 : List (S24)) (x7_1 : Int), v7 = .int .i64 x7_1 ∧ Az_ (soritesref14_less.l0 kq l0 l1 x5_1 x6_1 x7_1 = some r) ∧ Az_ (kq ≤ k) ∧ Az_ (Kd.V k24 24 w' w.heap.size (fun k_ => (P0_ k_ ∨ w.heap.size ≤ k_) ∧ some k_ ≠ (v414 : Value).ownBlock ∧ some k_ ≠ (v6 : Value).ownBlock) (.slice A0 l0.length c0) l0) ∧ Az_ (Kd.R Kd.bool 4 w' w.heap.size (fun k_ => (w.heap.size ≤ k_)) v414 x5_1) ∧ Az_ (Kd.N k24 24 w' w.heap.size (fun k_ => (P0_ k_ ∨ w.heap.size ≤ k_) ∧ some k_ ≠ (v414 : Value).ownBlock) v6 x6_1) ∧ Az_ (Below w.heap.size w w'))
   case atStart => exact ⟨(y413), (([] : List (S24))), (0), sq_, H', ⟨Nat.le_refl _⟩, ⟨by (with_reducible repeat (first | apply Kd.V_alloc | apply Kd.V_drewN | apply Kd.V_drew)); exact Kd.V_mono HO0.out (fun _ hk => ⟨hk.1, ⟨hk.2, (by simp [Value.ownBlock])⟩⟩)⟩, ⟨by (with_reducible repeat (first | apply Kd.R_alloc | apply Kd.R_drewN | apply Kd.R_drew)); exact Kd.R_mono HO415.out (fun _ hk => hk.1)⟩, ⟨by first | exact Kd.R_nil _ _ _ _ _ | exact Kd.N_nil _ _ _ _ _ | exact Kd.V_nil _ _ _ _ _ | exact Kd.Q_nil _ _ _ _ _ | exact Kd.S_nil _ _ _ _ _⟩, ⟨bq_ HB⟩⟩
   case round =>
    clear H'
    try clear c1
    try clear p2
    try clear c3
    try clear c3b0
    try clear c3b1
    try clear c4
    try clear c4b0
    try clear c4b1
    obtain ⟨x5_1, x6_1, x7_1, rfl, HA, HK1, HO_0, HO_5, HO_6, HB⟩ := hrel
    cases gk with
    | zero => exact absurd HA.out (by simp [soritesref14_less.l0])
    | succ k1 =>
     have H := HA.out
     clear HA
     simp only [soritesref14_less.l0] at H
     by_cases c7 : x7_1 < (l0.length : Int)
     ·rw [if_pos c7] at H
      have c7b0 : decide (x7_1 < (l0.length : Int)) = true := decide_eq_true c7
      clear c7
      have H' := Az_.mk H
      clear H
      go_wp2
      go_loopg [8, 9] k1 (fun kq v8 v9 w' => ∃ (x5_2 : List Bool) (x8_2 : Bool) (x9_2 : Int), v8 = .bool x8_2 ∧ v9 = .int .i64 x9_2 ∧ Az_ (soritesref14_less.l1 kq l0 l1 x5_2 x6_1 x7_1 x8_2 x9_2 = some r) ∧ Az_ (kq ≤ k1) ∧ Az_ (Kd.V k24 24 w' w.heap.size (fun k_ => (P0_ k_ ∨ w.heap.size ≤ k_) ∧ some k_ ≠ (v414 : Value).ownBlock ∧ some k_ ≠ (u6 : Value).ownBlock) (.slice A0 l0.length c0) l0) ∧ Az_ (Kd.R Kd.bool 4 w' w.heap.size (fun k_ => (w.heap.size ≤ k_)) v414 x5_2) ∧ Az_ (Kd.N k24 24 w' w.heap.size (fun k_ => (P0_ k_ ∨ w.heap.size ≤ k_) ∧ some k_ ≠ (v414 : Value).ownBlock) u6 x6_1) ∧ Az_ (Below w.heap.size w w'))
      case atStart => exact ⟨(x5_1), (false), (0), sq_, sq_, H', ⟨Nat.le_refl _⟩, ⟨by (with_reducible repeat (first | apply Kd.V_alloc | apply Kd.V_drewN | apply Kd.V_drew)); exact HO_0.out⟩, ⟨by (with_reducible repeat (first | apply Kd.R_alloc | apply Kd.R_drewN | apply Kd.R_drew)); exact HO_5.out⟩, ⟨by (with_reducible repeat (first | apply Kd.N_alloc | apply Kd.N_drewN | apply Kd.N_drew)); exact HO_6.out⟩, ⟨bq_ HB⟩⟩
      case round =>
       clear H'
       try clear c1
       try clear p2
       try clear c3
       try clear c3b0
       try clear c3b1
       try clear c4
       try clear c4b0
       try clear c4b1
       try clear c7
       try clear c7b0
       try clear p2
       obtain ⟨x5_2, x8_2, x9_2, rfl, rfl, HA, HK2, HO_0, HO_5, HO_6, HB⟩ := hrel
       cases gk with
       | zero => exact absurd HA.out (by simp [soritesref14_less.l1])
       | succ k2 =>
        have H := HA.out
        clear HA
        simp only [soritesref14_less.l1] at H
        by_cases c8 : x9_2 < (l1.length : Int)
        ·rw [if_pos c8] at H
         have c8b0 : decide (x9_2 < (l1.length : Int)) = true := decide_eq_true c8
         clear c8
         by_cases c9 : x8_2 = true
         ·subst c9
          have H1 : (soritesref14_less.l1 k2 l0 l1 x5_2 x6_1 x7_1 true (wrap64 (x9_2 + 1))) = some r := by rw [if_pos rfl] at H; exact H
          clear H
          have H := H1
          clear H1
          have H' := Az_.mk H
          clear H
          try go_wp2
          replace HO_0 := Az_.mk (Kd.V_drew HO_0.out)
          replace HO_5 := Az_.mk (Kd.R_drew HO_5.out)
          replace HO_6 := Az_.mk (Kd.N_drew HO_6.out)
          replace HB := Az_.mk (bD_ HB.out)
          refine start_ (n := 20) (S := fun w' => True) (ds := []) #[false, false, false, false, false, false, false, false, false, false, false, false, false, false, false, false, false, false, false, false] (by kernel_rfl) rfl rfl trivial (fun hHeld => ?_); refine with_tabW soritesref14_less.tab10 soritesref14_less.bits10 (fun HT_ HW_ => ?_)
          generalize wr.drew = w10 at HO_0 HO_5 HO_6 HB hHeld ⊢
          refine pa_ 0 25 HT_ ?_
          refine pa_ 1 26 HT_ ?_
          refine pa_ 2 27 HT_ ?_
          refine pu_ 3 28 HT_ ?_
          refine pu_ 4 29 HT_ ?_
          refine pu_ 5 30 HT_ ?_
          refine pu_ 6 31 HT_ ?_
          refine pu_ 7 32 HT_ ?_
          refine pa_ 8 33 HT_ ?_
          refine pa_ 9 34 HT_ ?_
          refine pu_ 10 35 HT_ ?_
          refine pu_ 11 36 HT_ ?_
          refine pu_ 12 37 HT_ ?_
          refine pu_ 13 38 HT_ ?_
          refine pu_ 14 39 HT_ ?_
          refine pu_ 15 40 HT_ ?_
          refine pu_ 16 41 HT_ ?_
          refine pu_ 17 42 HT_ ?_
          refine pu_ 18 43 HT_ ?_
          refine pa_ 19 44 HT_ ?_
          refine done_ (done_of HT_.out (by kernel_rfl)) ?_
          try go_wp2
          go_roundg k2
          case measure => have := HK1.out; have := HK2.out; omega
          case rel => exact ⟨(x5_2), (true), (wrap64 (x9_2 + 1)), sq_, sq_, H', ⟨by have := HK1.out; have := HK2.out; omega⟩, ⟨by (with_reducible repeat (first | apply Kd.V_alloc | apply Kd.V_drewN | apply Kd.V_drew)); exact HO_0.out⟩, ⟨by (with_reducible repeat (first | apply Kd.R_alloc | apply Kd.R_drewN | apply Kd.R_drew)); exact HO_5.out⟩, ⟨by (with_reducible repeat (first | apply Kd.N_alloc | apply Kd.N_drewN | apply Kd.N_drew)); exact HO_6.out⟩, ⟨bq_ HB⟩⟩
         ·replace c9 := Bool.eq_false_iff.mpr c9
          subst c9
          have H1 : (if 0 ≤ x9_2 then (if x9_2 < (x5_2.length : Int) then (if rdOf false x5_2 x9_2 = true then (soritesref14_less.l1 k2 l0 l1 x5_2 x6_1 x7_1 false (wrap64 (x9_2 + 1))) else (if 0 ≤ x7_1 then (if x7_1 < (l0.length : Int) then ((soritesref06_Same.f k2 ((rd_T24 l0 x7_1).f0) ((rd_T24 l0 x7_1).f1) ((rd_T24 l1 x9_2).f0) ((rd_T24 l1 x9_2).f1)).bind fun t419 => (if t419 = true then (soritesref14_less.l1 k2 l0 l1 (x5_2.set (x9_2 : Int).toNat true) x6_1 x7_1 true (wrap64 (x9_2 + 1))) else (soritesref14_less.l1 k2 l0 l1 x5_2 x6_1 x7_1 false (wrap64 (x9_2 + 1))))) else (none)) else (none))) else (none)) else (none)) = some r := by rw [if_neg (show ¬ (false = true) by decide)] at H; exact H
          clear H
          have H := H1
          clear H1
          by_cases c11 : 0 ≤ x9_2
          ·rw [if_pos c11] at H
           have c11b0 : decide (0 ≤ x9_2) = true := decide_eq_true c11
           clear c11
           by_cases c12 : x9_2 < (x5_2.length : Int)
           ·rw [if_pos c12] at H
            have c12b0 : decide (x9_2 < (x5_2.length : Int)) = true := decide_eq_true c12
            clear c12
            obtain ⟨bq13, hbq13⟩ : ∃ b_ : Bool, b_ = (rdOf false x5_2 x9_2) := ⟨_, rfl⟩
            replace H : (if bq13 = true then (soritesref14_less.l1 k2 l0 l1 x5_2 x6_1 x7_1 false (wrap64 (x9_2 + 1))) else (if 0 ≤ x7_1 then (if x7_1 < (l0.length : Int) then ((soritesref06_Same.f k2 ((rd_T24 l0 x7_1).f0) ((rd_T24 l0 x7_1).f1) ((rd_T24 l1 x9_2).f0) ((rd_T24 l1 x9_2).f1)).bind fun t419 => (if t419 = true then (soritesref14_less.l1 k2 l0 l1 (x5_2.set (x9_2 : Int).toNat true) x6_1 x7_1 true (wrap64 (x9_2 + 1))) else (soritesref14_less.l1 k2 l0 l1 x5_2 x6_1 x7_1 false (wrap64 (x9_2 + 1))))) else (none)) else (none))) = some r := by rw [← hbq13] at H; exact H
            have Nbq13 := Az_.mk hbq13
            clear hbq13
            by_cases c14 : bq13 = true
            ·subst c14
             have H1 : (soritesref14_less.l1 k2 l0 l1 x5_2 x6_1 x7_1 false (wrap64 (x9_2 + 1))) = some r := by rw [if_pos rfl] at H; exact H
             clear H
             have H := H1
             clear H1
             have H' := Az_.mk H
             clear H
             try go_wp2
             replace HO_0 := Az_.mk (Kd.V_drew HO_0.out)
             replace HO_5 := Az_.mk (Kd.R_drew HO_5.out)
             replace HO_6 := Az_.mk (Kd.N_drew HO_6.out)
             replace HB := Az_.mk (bD_ HB.out)
             obtain ⟨Ao16, co16, eo16⟩ := Kd.R_slice HO_5.out
             (first | subst eo16 | (injection eo16 with f1_ f2_ f3_; have f4_ := f1_.symm; have f5_ := f3_.symm; clear f1_ f2_ f3_; subst f4_; subst f5_))
             have p416 : 0 ≤ (x9_2 : Int) := of_decide_eq_true (by first | (with_reducible assumption) | assumption)
             have q416 : x9_2 < (x5_2.length : Int) := of_decide_eq_true (by first | (with_reducible assumption) | assumption)
             obtain ⟨ad416, e416, hx416_0⟩ := Kd.at_bool (Kd.R_reads' HO_5.out).2.2 x9_2 p416 q416
             (try rw [← Nbq13.out] at hx416_0)
             cases e416
             replace p416 := eq_true p416
             replace q416 := eq_true q416
             refine start_ (n := 20) (S := fun w' => w'.cell? (ad416.add (x9_2).toNat) = some (.bool true)) (ds := []) #[false, false, false, false, false, false, false, false, false, false, false, false, false, false, false, false, false, false, false, false] (by kernel_rfl) rfl rfl (hx416_0) (fun hHeld => ?_); refine with_tabW soritesref14_less.tab10 soritesref14_less.bits10 (fun HT_ HW_ => ?_)
             generalize wr.drew = w15 at HO_0 HO_5 HO_6 HB hx416_0 hHeld ⊢
             refine pa_ 0 25 HT_ ?_
             refine pa_ 1 26 HT_ ?_
             refine pa_ 2 27 HT_ ?_
             refine pa_ 3 28 HT_ ?_
             refine pa_ 4 29 HT_ ?_
             refine pa_ 5 30 HT_ ?_
             refine take_ (i := 6) (N := some 31) (v := ?_) (a' := ?_) #[true, true, true, true, true, true, true, false, false, false, false, false, false, false, false, false, false, false, false, false] rfl rfl (take_ofW HT_.out HW_.out (by kernel_rfl)) (fun _ _ _ h => h) (Or.inl ⟨by rfl, ?_⟩) hHeld ?_ ?_
             rotate_left
             ·intro w' s0
              go_simp
              with_reducible rfl
             rotate_left
             ·simp only [Act.put, sA_, sZ_, sS_, i64_w, i32_w]
              rfl
             refine pa_ 7 32 HT_ ?_
             refine pa_ 8 33 HT_ ?_
             refine pa_ 9 34 HT_ ?_
             refine pu_ 10 35 HT_ ?_
             refine pu_ 11 36 HT_ ?_
             refine pu_ 12 37 HT_ ?_
             refine pu_ 13 38 HT_ ?_
             refine pu_ 14 39 HT_ ?_
             refine pu_ 15 40 HT_ ?_
             refine pu_ 16 41 HT_ ?_
             refine pu_ 17 42 HT_ ?_
             refine pu_ 18 43 HT_ ?_
             refine pa_ 19 44 HT_ ?_
             refine done_ (done_of HT_.out (by kernel_rfl)) ?_
             try go_wp2
             go_roundg k2
             case measure => have := HK1.out; have := HK2.out; omega
             case rel => exact ⟨(x5_2), (false), (wrap64 (x9_2 + 1)), sq_, sq_, H', ⟨by have := HK1.out; have := HK2.out; omega⟩, ⟨by (with_reducible repeat (first | apply Kd.V_alloc | apply Kd.V_drewN | apply Kd.V_drew)); exact HO_0.out⟩, ⟨by (with_reducible repeat (first | apply Kd.R_alloc | apply Kd.R_drewN | apply Kd.R_drew)); exact HO_5.out⟩, ⟨by (with_reducible repeat (first | apply Kd.N_alloc | apply Kd.N_drewN | apply Kd.N_drew)); exact HO_6.out⟩, ⟨bq_ HB⟩⟩
            ·replace c14 := Bool.eq_false_iff.mpr c14
             subst c14
             have H1 : (if 0 ≤ x7_1 then (if x7_1 < (l0.length : Int) then ((soritesref06_Same.f k2 ((rd_T24 l0 x7_1).f0) ((rd_T24 l0 x7_1).f1) ((rd_T24 l1 x9_2).f0) ((rd_T24 l1 x9_2).f1)).bind fun t419 => (if t419 = true then (soritesref14_less.l1 k2 l0 l1 (x5_2.set (x9_2 : Int).toNat true) x6_1 x7_1 true (wrap64 (x9_2 + 1))) else (soritesref14_less.l1 k2 l0 l1 x5_2 x6_1 x7_1 false (wrap64 (x9_2 + 1))))) else (none)) else (none)) = some r := by rw [if_neg (show ¬ (false = true) by decide)] at H; exact H
             clear H
             have H := H1
             clear H1
             by_cases c17 : 0 ≤ x7_1
             ·rw [if_pos c17] at H
              have c17b0 : decide (0 ≤ x7_1) = true := decide_eq_true c17
              clear c17
              by_cases c18 : x7_1 < (l0.length : Int)
              ·rw [if_pos c18] at H
               have c18b0 : decide (x7_1 < (l0.length : Int)) = true := decide_eq_true c18
               clear c18
               replace H := Option.bind_eq_some_iff.mp H
               obtain ⟨t419, A190, H⟩ := H
               replace H : (if t419 = true then (soritesref14_less.l1 k2 l0 l1 (x5_2.set (x9_2 : Int).toNat true) x6_1 x7_1 true (wrap64 (x9_2 + 1))) else (soritesref14_less.l1 k2 l0 l1 x5_2 x6_1 x7_1 false (wrap64 (x9_2 + 1)))) = some r := H
               have A19 := Az_.mk A190
               clear A190
               by_cases c20 : t419 = true
               ·subst c20
                have H1 : (soritesref14_less.l1 k2 l0 l1 (x5_2.set (x9_2 : Int).toNat true) x6_1 x7_1 true (wrap64 (x9_2 + 1))) = some r := by rw [if_pos rfl] at H; exact H
                clear H
                have H := H1
                clear H1
                obtain ⟨y420, hy420⟩ : ∃ y_ : List Bool, y_ = (x5_2.set (x9_2 : Int).toNat true) := ⟨_, rfl⟩
                replace H : (soritesref14_less.l1 k2 l0 l1 y420 x6_1 x7_1 true (wrap64 (x9_2 + 1))) = some r := by first | (rw [hy420]; with_reducible exact H) | (have H2_ := (Option.bind_some _ _).symm.trans H; rw [hy420]; with_reducible exact H2_) | (have H2_ := (Option.bind_some _ _).symm.trans H; with_reducible exact H2_) | with_reducible exact H | (rw [hy420]; exact H) | exact H
                have Ny420 := Az_.mk hy420
                clear hy420
                have H' := Az_.mk H
                clear H
                try go_wp2
                replace HO_0 := Az_.mk (Kd.V_drew HO_0.out)
                replace HO_5 := Az_.mk (Kd.R_drew HO_5.out)
                replace HO_6 := Az_.mk (Kd.N_drew HO_6.out)
                replace HB := Az_.mk (bD_ HB.out)
                obtain ⟨Ao23, co23, eo23⟩ := Kd.R_slice HO_5.out
                (first | subst eo23 | (injection eo23 with f1_ f2_ f3_; have f4_ := f1_.symm; have f5_ := f3_.symm; clear f1_ f2_ f3_; subst f4_; subst f5_))
                have p416 : 0 ≤ (x9_2 : Int) := of_decide_eq_true (by first | (with_reducible assumption) | assumption)
                have q416 : x9_2 < (x5_2.length : Int) := of_decide_eq_true (by first | (with_reducible assumption) | assumption)
                obtain ⟨ad416, e416, hx416_0⟩ := Kd.at_bool (Kd.R_reads' HO_5.out).2.2 x9_2 p416 q416
                (try rw [← Nbq13.out] at hx416_0)
                cases e416
                replace p416 := eq_true p416
                replace q416 := eq_true q416
                have p417 : 0 ≤ (x7_1 : Int) := of_decide_eq_true (by first | (with_reducible assumption) | assumption)
                have q417 : x7_1 < (l0.length : Int) := of_decide_eq_true (by first | (with_reducible assumption) | assumption)
                obtain ⟨ad417, A417_1, c417_1, e417, hx417_0, hx417_1, hl417_1, hi417_1⟩ := at_T24 (Kd.V_reads' HO_0.out).2.2 x7_1 p417 q417
                cases e417
                obtain ⟨ce417, hce417, hMe417, hcc417⟩ := Kd.V_get HO_0.out z24 x7_1 p417 (by first | exact q417 | exact of_decide_eq_true (by first | (with_reducible assumption) | assumption) | (have e_ := (Kd.V_reads' HO_0.out).1; omega))
                obtain ⟨ua417_1, uc417_1, rfl, ul417_1, ge417_1⟩ := k24_openF hMe417
                have hv417_1 := hcc417 1 _ rfl
                rw [add_field _ _ 1 (by omega)] at hv417_1
                replace hv417_1 := Option.some.inj (hv417_1.symm.trans hx417_1)
                injection hv417_1 with hva_ hvn_ hvc_
                rw [hva_] at ge417_1
                rw [hvc_] at ul417_1
                have HL417_1 := Az_.mk (show Kd.V k24 24 _ w.heap.size _ _ ((rd_T24 l0 x7_1).f1) from Kd.V_mk ul417_1 ge417_1)
                clear hva_ hvn_ hvc_ ge417_1 ul417_1
                clear hcc417 hce417
                have HR417_1 := Az_.mk hi417_1
                have HC417_1 := Az_.mk hl417_1
                clear hi417_1 hl417_1
                replace p417 := eq_true p417
                replace q417 := eq_true q417
                have p418 : 0 ≤ (x9_2 : Int) := of_decide_eq_true (by first | (with_reducible assumption) | assumption)
                have q418 : x9_2 < (l1.length : Int) := of_decide_eq_true (by first | (with_reducible assumption) | assumption)
                obtain ⟨ad418, A418_1, c418_1, e418, hx418_0, hx418_1, hl418_1, hi418_1⟩ := at_T24 HR1.out x9_2 p418 q418
                have hw418_1 := hx418_1
                have hw418_0 := hx418_0
                cases e418
                replace hx418_0 := (HB.out.cell (World.block_lt_of_cell? w _ hx418_0)).trans hx418_0
                replace hx418_1 := (HB.out.cell (World.block_lt_of_cell? w _ hx418_1)).trans hx418_1
                have HR418_1 := Az_.mk hi418_1
                have HC418_1 := Az_.mk hl418_1
                clear hi418_1 hl418_1
                replace p418 := eq_true p418
                replace q418 := eq_true q418
                refine start_ (n := 20) (S := fun w' => w'.cell? (ad416.add (x9_2).toNat) = some (.bool false) ∧ w'.cell? (ad417.add ((x7_1).toNat * 2)) = some (.int .i64 ((rd_T24 l0 x7_1).f0)) ∧ w'.cell? ⟨(ad417.add ((x7_1).toNat * 2)).block, (ad417.add ((x7_1).toNat * 2)).off + 1, none⟩ = some (.slice A417_1 ((rd_T24 l0 x7_1).f1).length c417_1) ∧ w'.cell? (ad418.add ((x9_2).toNat * 2)) = some (.int .i64 ((rd_T24 l1 x9_2).f0)) ∧ w'.cell? ⟨(ad418.add ((x9_2).toNat * 2)).block, (ad418.add ((x9_2).toNat * 2)).off + 1, none⟩ = some (.slice A418_1 ((rd_T24 l1 x9_2).f1).length c418_1)) (ds := []) #[false, false, false, false, false, false, false, false, false, false, false, false, false, false, false, false, false, false, false, false] (by kernel_rfl) rfl rfl ⟨hx416_0, hx417_0, hx417_1, ((HB.out.cell (World.block_lt_of_cell? w _ hw418_0)).trans hw418_0), ((HB.out.cell (World.block_lt_of_cell? w _ hw418_1)).trans hw418_1)⟩ (fun hHeld => ?_); refine with_tabW soritesref14_less.tab10 soritesref14_less.bits10 (fun HT_ HW_ => ?_)
                generalize wr.drew = w22 at HO_0 HO_5 HO_6 HB HL417_1 HR417_1 HR418_1 hx416_0 hx417_0 hx417_1 hx418_0 hx418_1 hHeld ⊢
                refine pa_ 0 25 HT_ ?_
                refine pa_ 1 26 HT_ ?_
                refine pa_ 2 27 HT_ ?_
                refine pa_ 3 28 HT_ ?_
                refine pa_ 4 29 HT_ ?_
                refine pa_ 5 30 HT_ ?_
                refine ta5_ 6 31 HT_ HW_ hHeld ?_
                refine pa_ 7 32 HT_ ?_
                refine pa_ 8 33 HT_ ?_
                refine pa_ 9 34 HT_ ?_
                refine pa_ 10 35 HT_ ?_
                refine pa_ 11 36 HT_ ?_
                refine pa_ 12 37 HT_ ?_
                refine pa_ 14 39 HT_ ?_
                refine pa_ 15 40 HT_ ?_
                refine pa_ 16 41 HT_ ?_
                refine ta5_ 13 38 HT_ HW_ hHeld ?_
                refine ta5_ 17 42 HT_ HW_ hHeld ?_
                refine one_ (i := 18) (N := some 43) #[true, true, true, true, true, true, true, true, true, true, true, true, true, true, true, true, true, true, true, false] rfl rfl (one_of HT_.out (by kernel_rfl)) (by decide) (fun K hK => ?_)
                refine goes_ Try.func28 (by kernel_rfl) rfl #[.agg #[.int .i64 ((rd_T24 l0 x7_1).f0), .slice A417_1 ((rd_T24 l0 x7_1).f1).length c417_1], .agg #[.int .i64 ((rd_T24 l1 x9_2).f0), .slice A418_1 ((rd_T24 l1 x9_2).f1).length c418_1]] (by rfl) rfl rfl mq_ ?_
                with_reducible refine (soritesref06_Same.calls k2 ((rd_T24 l0 x7_1).f0) _ _ ((rd_T24 l0 x7_1).f1) ((rd_T24 l1 x9_2).f0) _ _ ((rd_T24 l1 x9_2).f1) true _ ?side1 ?side2 ?side3 ?side4 A19.out).mono ?_
                (case side1 => repeat (first | exact (by repeat (first | (with_reducible exact HR417_1.out) | (with_reducible refine Kd.C_alloc ?_ _) | (with_reducible refine Kd.C_drewN ?_ _) | (with_reducible refine Kd.C_drew ?_) | exact HR417_1.out)) | (with_reducible refine Kd.C_alloc ?_ _) | (with_reducible refine Kd.C_drewN ?_ _) | (with_reducible refine Kd.C_drew ?_)))
                (case side2 => exact HC417_1.out)
                (case side3 => exact cq_ (Kd.C_below HR418_1.out HB.out))
                (case side4 => exact HC418_1.out)
                rintro e w24 ⟨rfl, hb⟩
                have HS0_ := (hb.cell (World.block_lt_of_cell? _ _ (hHeld.1))).trans (hHeld.1)
                have HS1_ := (hb.cell (World.block_lt_of_cell? _ _ (hHeld.2.1))).trans (hHeld.2.1)
                have HS2_ := (hb.cell (World.block_lt_of_cell? _ _ (hHeld.2.2.1))).trans (hHeld.2.2.1)
                refine ⟨_, rfl, ?_⟩
                replace HO_0 := Az_.mk (Kd.V_below (vq_ HO_0) hb)
                replace HO_5 := Az_.mk (Kd.R_below (rr_ HO_5) hb)
                replace HO_6 := Az_.mk (Kd.N_below (nq_ HO_6) hb)
                replace HL417_1 := Az_.mk (Kd.V_below (vq_ HL417_1) hb)
                replace HR417_1 := Az_.mk (Kd.C_below (by repeat (first | (with_reducible exact HR417_1.out) | (with_reducible refine Kd.C_alloc ?_ _) | (with_reducible refine Kd.C_drewN ?_ _) | (with_reducible refine Kd.C_drew ?_) | exact HR417_1.out)) hb)
                replace HB := Az_.mk (bT_ (bq_ HB) hb)
                (try clear hb)
                (try clear hb2)
                (try clear hk)
                (try clear hi)
                refine hK.out _ _ ⟨HS0_, HS1_, HS2_, ((HB.out.cell (World.block_lt_of_cell? w _ hw418_0)).trans hw418_0), ((HB.out.cell (World.block_lt_of_cell? w _ hw418_1)).trans hw418_1)⟩ (fun hHeld => ?_)
                clear hK K
                refine norm_ (a' := ?_) ?_ ?_
                rotate_left
                ·show Act.put _ (some 43) _ = _
                 simp only [Act.put, sA_, sZ_, sS_, i64_w, i32_w]
                 rfl
                refine pa_ 19 44 HT_ ?_
                refine done_ (done_of HT_.out (by kernel_rfl)) ?_
                have p21 : 0 ≤ (x9_2 : Int) := of_decide_eq_true (by first | (with_reducible assumption) | assumption)
                have q21 : (x9_2 : Int) < ((x5_2.length : Int) : Int) := of_decide_eq_true (by first | (with_reducible assumption) | assumption)
                obtain ⟨go21, co21, eo21, gb21, gl21, cl21, HG21⟩ := Kd.R_form HO_5.out (by omega)
                (first | cases eo21 | (injection eo21 with ea_ en_ ec_; (first | subst ea_ | (injection ea_ with ea_; subst ea_)); subst ec_; clear en_))
                have GB21 := Az_.mk gb21
                have GG21 := Az_.mk HG21
                clear gb21 gl21 HG21
                (first | simp only [add_plain] at hx416_0 | skip)
                obtain ⟨hx21_0, hf21_0⟩ := Kd.R_celln false HO_5.out (x9_2 : Int) p21 q21
                replace p21 := eq_true p21
                replace q21 := eq_true q21
                obtain ⟨hy25_, hz25_⟩ := Kd.R_celln false HO_5.out (x9_2 : Int) (of_decide_eq_true (by first | (with_reducible assumption) | assumption)) (of_decide_eq_true (by first | (with_reducible assumption) | assumption))
                have HP25 := Kd.R_putg HO_5.out (x9_2 : Int) true
                try go_wp2_with (first | ((with_reducible refine gate_store (t := 4) (p := 47) rfl ?_); refine store_event (t := 4) (p := 47) (v := ?vo_w26) (w1 := (w24.setCell ⟨go21, (x9_2 : Int).toNat, none⟩ (.bool true))) ?hg ?ho ?hn ?hr ?_; (case ho => rfl); (case hg => rfl); (case hn => rfl); (case hr => exact rq_); intro w26 hw; have hg : w24.grownBy w26 (some go21) := (by rw [hw]; exact HP25.2); have hp_ : Kd.R Kd.bool 4 w26 w.heap.size (fun k_ => (w.heap.size ≤ k_)) (.slice (some ⟨go21, 0, none⟩) x5_2.length co23) y420 := (by rw [hw, Ny420.out]; exact HP25.1); clear HP25; replace HO_0 := Az_.mk (Kd.V_afterv (v := (.slice (some ⟨go21, 0, none⟩) x5_2.length co23)) (v1 := (.slice (some ⟨go21, 0, none⟩) x5_2.length co23)) (ok := (fun k_ => (P0_ k_ ∨ w.heap.size ≤ k_) ∧ some k_ ≠ (u6 : Value).ownBlock)) (by (with_reducible repeat (first | apply Kd.V_alloc | apply Kd.V_drewN | apply Kd.V_drew)); exact Kd.V_mono HO_0.out (fun _ hk => ⟨⟨hk.1, hk.2.2⟩, hk.2.1⟩)) hg (.inl rfl)); replace HO_5 := Az_.mk (hp_); replace HO_6 := Az_.mk (Kd.N_afterv (v := (.slice (some ⟨go21, 0, none⟩) x5_2.length co23)) (v1 := (.slice (some ⟨go21, 0, none⟩) x5_2.length co23)) (ok := (fun k_ => (P0_ k_ ∨ w.heap.size ≤ k_))) (nq_ HO_6) hg (.inl rfl)); replace HL417_1 := Az_.mk (Kd.V_afterv (v := (.slice (some ⟨go21, 0, none⟩) x5_2.length co23)) (v1 := (.slice (some ⟨go21, 0, none⟩) x5_2.length co23)) (ok := (fun k_ => (P0_ k_ ∨ w.heap.size ≤ k_) ∧ some k_ ≠ (u6 : Value).ownBlock)) (by (with_reducible repeat (first | apply Kd.V_alloc | apply Kd.V_drewN | apply Kd.V_drew)); exact Kd.V_mono HL417_1.out (fun _ hk => ⟨⟨hk.1, hk.2.2⟩, hk.2.1⟩)) hg (.inl rfl)); replace HB := Az_.mk ((by rw [hw]; exact bS_ (HB.out) GB21.out : Below w.heap.size w w26)); clear hg hw hp_))
                go_roundg k2
                case measure => have := HK1.out; have := HK2.out; omega
                case rel => exact ⟨(y420), (true), (wrap64 (x9_2 + 1)), sq_, sq_, H', ⟨by have := HK1.out; have := HK2.out; omega⟩, ⟨by (with_reducible repeat (first | apply Kd.V_alloc | apply Kd.V_drewN | apply Kd.V_drew)); exact Kd.V_mono HO_0.out (fun _ hk => ⟨hk.1.1, ⟨hk.2, hk.1.2⟩⟩)⟩, ⟨by (with_reducible repeat (first | apply Kd.R_alloc | apply Kd.R_drewN | apply Kd.R_drew)); exact HO_5.out⟩, ⟨by (with_reducible repeat (first | apply Kd.N_alloc | apply Kd.N_drewN | apply Kd.N_drew)); exact HO_6.out⟩, ⟨bq_ HB⟩⟩
               ·replace c20 := Bool.eq_false_iff.mpr c20
                subst c20
                have H1 : (soritesref14_less.l1 k2 l0 l1 x5_2 x6_1 x7_1 false (wrap64 (x9_2 + 1))) = some r := by rw [if_neg (show ¬ (false = true) by decide)] at H; exact H
                clear H
                have H := H1
                clear H1
                have H' := Az_.mk H
                clear H
                try go_wp2
                replace HO_0 := Az_.mk (Kd.V_drew HO_0.out)
                replace HO_5 := Az_.mk (Kd.R_drew HO_5.out)
                replace HO_6 := Az_.mk (Kd.N_drew HO_6.out)
                replace HB := Az_.mk (bD_ HB.out)
                obtain ⟨Ao28, co28, eo28⟩ := Kd.R_slice HO_5.out
                (first | subst eo28 | (injection eo28 with f1_ f2_ f3_; have f4_ := f1_.symm; have f5_ := f3_.symm; clear f1_ f2_ f3_; subst f4_; subst f5_))
                have p416 : 0 ≤ (x9_2 : Int) := of_decide_eq_true (by first | (with_reducible assumption) | assumption)
                have q416 : x9_2 < (x5_2.length : Int) := of_decide_eq_true (by first | (with_reducible assumption) | assumption)
                obtain ⟨ad416, e416, hx416_0⟩ := Kd.at_bool (Kd.R_reads' HO_5.out).2.2 x9_2 p416 q416
                (try rw [← Nbq13.out] at hx416_0)
                cases e416
                replace p416 := eq_true p416
                replace q416 := eq_true q416
                have p417 : 0 ≤ (x7_1 : Int) := of_decide_eq_true (by first | (with_reducible assumption) | assumption)
                have q417 : x7_1 < (l0.length : Int) := of_decide_eq_true (by first | (with_reducible assumption) | assumption)
                obtain ⟨ad417, A417_1, c417_1, e417, hx417_0, hx417_1, hl417_1, hi417_1⟩ := at_T24 (Kd.V_reads' HO_0.out).2.2 x7_1 p417 q417
                cases e417
                obtain ⟨ce417, hce417, hMe417, hcc417⟩ := Kd.V_get HO_0.out z24 x7_1 p417 (by first | exact q417 | exact of_decide_eq_true (by first | (with_reducible assumption) | assumption) | (have e_ := (Kd.V_reads' HO_0.out).1; omega))
                obtain ⟨ua417_1, uc417_1, rfl, ul417_1, ge417_1⟩ := k24_openF hMe417
                have hv417_1 := hcc417 1 _ rfl
                rw [add_field _ _ 1 (by omega)] at hv417_1
                replace hv417_1 := Option.some.inj (hv417_1.symm.trans hx417_1)
                injection hv417_1 with hva_ hvn_ hvc_
                rw [hva_] at ge417_1
                rw [hvc_] at ul417_1
                have HL417_1 := Az_.mk (show Kd.V k24 24 _ w.heap.size _ _ ((rd_T24 l0 x7_1).f1) from Kd.V_mk ul417_1 ge417_1)
                clear hva_ hvn_ hvc_ ge417_1 ul417_1
                clear hcc417 hce417
                have HR417_1 := Az_.mk hi417_1
                have HC417_1 := Az_.mk hl417_1
                clear hi417_1 hl417_1
                replace p417 := eq_true p417
                replace q417 := eq_true q417
                have p418 : 0 ≤ (x9_2 : Int) := of_decide_eq_true (by first | (with_reducible assumption) | assumption)
                have q418 : x9_2 < (l1.length : Int) := of_decide_eq_true (by first | (with_reducible assumption) | assumption)
                obtain ⟨ad418, A418_1, c418_1, e418, hx418_0, hx418_1, hl418_1, hi418_1⟩ := at_T24 HR1.out x9_2 p418 q418
                have hw418_1 := hx418_1
                have hw418_0 := hx418_0
                cases e418
                replace hx418_0 := (HB.out.cell (World.block_lt_of_cell? w _ hx418_0)).trans hx418_0
                replace hx418_1 := (HB.out.cell (World.block_lt_of_cell? w _ hx418_1)).trans hx418_1
                have HR418_1 := Az_.mk hi418_1
                have HC418_1 := Az_.mk hl418_1
                clear hi418_1 hl418_1
                replace p418 := eq_true p418
                replace q418 := eq_true q418
                refine start_ (n := 20) (S := fun w' => w'.cell? (ad416.add (x9_2).toNat) = some (.bool false) ∧ w'.cell? (ad417.add ((x7_1).toNat * 2)) = some (.int .i64 ((rd_T24 l0 x7_1).f0)) ∧ w'.cell? ⟨(ad417.add ((x7_1).toNat * 2)).block, (ad417.add ((x7_1).toNat * 2)).off + 1, none⟩ = some (.slice A417_1 ((rd_T24 l0 x7_1).f1).length c417_1) ∧ w'.cell? (ad418.add ((x9_2).toNat * 2)) = some (.int .i64 ((rd_T24 l1 x9_2).f0)) ∧ w'.cell? ⟨(ad418.add ((x9_2).toNat * 2)).block, (ad418.add ((x9_2).toNat * 2)).off + 1, none⟩ = some (.slice A418_1 ((rd_T24 l1 x9_2).f1).length c418_1)) (ds := []) #[false, false, false, false, false, false, false, false, false, false, false, false, false, false, false, false, false, false, false, false] (by kernel_rfl) rfl rfl ⟨hx416_0, hx417_0, hx417_1, ((HB.out.cell (World.block_lt_of_cell? w _ hw418_0)).trans hw418_0), ((HB.out.cell (World.block_lt_of_cell? w _ hw418_1)).trans hw418_1)⟩ (fun hHeld => ?_); refine with_tabW soritesref14_less.tab10 soritesref14_less.bits10 (fun HT_ HW_ => ?_)
                generalize wr.drew = w27 at HO_0 HO_5 HO_6 HB HL417_1 HR417_1 HR418_1 hx416_0 hx417_0 hx417_1 hx418_0 hx418_1 hHeld ⊢
                refine pa_ 0 25 HT_ ?_
                refine pa_ 1 26 HT_ ?_
                refine pa_ 2 27 HT_ ?_
                refine pa_ 3 28 HT_ ?_
                refine pa_ 4 29 HT_ ?_
                refine pa_ 5 30 HT_ ?_
                refine ta5_ 6 31 HT_ HW_ hHeld ?_
                refine pa_ 7 32 HT_ ?_
                refine pa_ 8 33 HT_ ?_
                refine pa_ 9 34 HT_ ?_
                refine pa_ 10 35 HT_ ?_
                refine pa_ 11 36 HT_ ?_
                refine pa_ 12 37 HT_ ?_
                refine pa_ 14 39 HT_ ?_
                refine pa_ 15 40 HT_ ?_
                refine pa_ 16 41 HT_ ?_
                refine ta5_ 13 38 HT_ HW_ hHeld ?_
                refine ta5_ 17 42 HT_ HW_ hHeld ?_
                refine one_ (i := 18) (N := some 43) #[true, true, true, true, true, true, true, true, true, true, true, true, true, true, true, true, true, true, true, false] rfl rfl (one_of HT_.out (by kernel_rfl)) (by decide) (fun K hK => ?_)
                refine goes_ Try.func28 (by kernel_rfl) rfl #[.agg #[.int .i64 ((rd_T24 l0 x7_1).f0), .slice A417_1 ((rd_T24 l0 x7_1).f1).length c417_1], .agg #[.int .i64 ((rd_T24 l1 x9_2).f0), .slice A418_1 ((rd_T24 l1 x9_2).f1).length c418_1]] (by rfl) rfl rfl mq_ ?_
                with_reducible refine (soritesref06_Same.calls k2 ((rd_T24 l0 x7_1).f0) _ _ ((rd_T24 l0 x7_1).f1) ((rd_T24 l1 x9_2).f0) _ _ ((rd_T24 l1 x9_2).f1) false _ ?side1 ?side2 ?side3 ?side4 A19.out).mono ?_
                (case side1 => repeat (first | exact (by repeat (first | (with_reducible exact HR417_1.out) | (with_reducible refine Kd.C_alloc ?_ _) | (with_reducible refine Kd.C_drewN ?_ _) | (with_reducible refine Kd.C_drew ?_) | exact HR417_1.out)) | (with_reducible refine Kd.C_alloc ?_ _) | (with_reducible refine Kd.C_drewN ?_ _) | (with_reducible refine Kd.C_drew ?_)))
                (case side2 => exact HC417_1.out)
                (case side3 => exact cq_ (Kd.C_below HR418_1.out HB.out))
                (case side4 => exact HC418_1.out)
                rintro e w29 ⟨rfl, hb⟩
                have HS0_ := (hb.cell (World.block_lt_of_cell? _ _ (hHeld.1))).trans (hHeld.1)
                have HS1_ := (hb.cell (World.block_lt_of_cell? _ _ (hHeld.2.1))).trans (hHeld.2.1)
                have HS2_ := (hb.cell (World.block_lt_of_cell? _ _ (hHeld.2.2.1))).trans (hHeld.2.2.1)
                refine ⟨_, rfl, ?_⟩
                replace HO_0 := Az_.mk (Kd.V_below (vq_ HO_0) hb)
                replace HO_5 := Az_.mk (Kd.R_below (rr_ HO_5) hb)
                replace HO_6 := Az_.mk (Kd.N_below (nq_ HO_6) hb)
                replace HL417_1 := Az_.mk (Kd.V_below (vq_ HL417_1) hb)
                replace HR417_1 := Az_.mk (Kd.C_below (by repeat (first | (with_reducible exact HR417_1.out) | (with_reducible refine Kd.C_alloc ?_ _) | (with_reducible refine Kd.C_drewN ?_ _) | (with_reducible refine Kd.C_drew ?_) | exact HR417_1.out)) hb)
                replace HB := Az_.mk (bT_ (bq_ HB) hb)
                (try clear hb)
                (try clear hb2)
                (try clear hk)
                (try clear hi)
                refine hK.out _ _ ⟨HS0_, HS1_, HS2_, ((HB.out.cell (World.block_lt_of_cell? w _ hw418_0)).trans hw418_0), ((HB.out.cell (World.block_lt_of_cell? w _ hw418_1)).trans hw418_1)⟩ (fun hHeld => ?_)
                clear hK K
                refine norm_ (a' := ?_) ?_ ?_
                rotate_left
                ·show Act.put _ (some 43) _ = _
                 simp only [Act.put, sA_, sZ_, sS_, i64_w, i32_w]
                 rfl
                refine pa_ 19 44 HT_ ?_
                refine done_ (done_of HT_.out (by kernel_rfl)) ?_
                try go_wp2
                go_roundg k2
                case measure => have := HK1.out; have := HK2.out; omega
                case rel => exact ⟨(x5_2), (false), (wrap64 (x9_2 + 1)), sq_, sq_, H', ⟨by have := HK1.out; have := HK2.out; omega⟩, ⟨by (with_reducible repeat (first | apply Kd.V_alloc | apply Kd.V_drewN | apply Kd.V_drew)); exact HO_0.out⟩, ⟨by (with_reducible repeat (first | apply Kd.R_alloc | apply Kd.R_drewN | apply Kd.R_drew)); exact HO_5.out⟩, ⟨by (with_reducible repeat (first | apply Kd.N_alloc | apply Kd.N_drewN | apply Kd.N_drew)); exact HO_6.out⟩, ⟨bq_ HB⟩⟩
              ·rw [if_neg c18] at H
               exact absurd H (by simp)
             ·rw [if_neg c17] at H
              exact absurd H (by simp)
           ·rw [if_neg c12] at H
            exact absurd H (by simp)
          ·rw [if_neg c11] at H
           exact absurd H (by simp)
        ·rw [if_neg c8] at H
         have c8b0 : decide (x9_2 < (l1.length : Int)) = false := decide_eq_false c8
         clear c8
         by_cases c30 : x8_2 = true
         ·subst c30
          have H1 : (soritesref14_less.l0 k2 l0 l1 x5_2 x6_1 (wrap64 (x7_1 + 1))) = some r := by rw [if_pos rfl] at H; exact H
          clear H
          have H := H1
          clear H1
          have H' := Az_.mk H
          clear H
          go_wp2
          go_roundg k2
          case measure => have := HK1.out; have := HK2.out; omega
          case rel => exact ⟨(x5_2), (x6_1), (wrap64 (x7_1 + 1)), sq_, H', ⟨by have := HK1.out; have := HK2.out; omega⟩, ⟨by (with_reducible repeat (first | apply Kd.V_alloc | apply Kd.V_drewN | apply Kd.V_drew)); exact HO_0.out⟩, ⟨by (with_reducible repeat (first | apply Kd.R_alloc | apply Kd.R_drewN | apply Kd.R_drew)); exact HO_5.out⟩, ⟨by (with_reducible repeat (first | apply Kd.N_alloc | apply Kd.N_drewN | apply Kd.N_drew)); exact HO_6.out⟩, ⟨bq_ HB⟩⟩
         ·replace c30 := Bool.eq_false_iff.mpr c30
          subst c30
          have H1 : (if 0 ≤ x7_1 then (if x7_1 < (l0.length : Int) then (if x6_1.length < 4398046511104 then (soritesref14_less.l0 k2 l0 l1 x5_2 (x6_1 ++ [(⟨(rd_T24 l0 x7_1).f0, (rd_T24 l0 x7_1).f1⟩ : S24)]) (wrap64 (x7_1 + 1))) else (none)) else (none)) else (none)) = some r := by rw [if_neg (show ¬ (false = true) by decide)] at H; exact H
          clear H
          have H := H1
          clear H1
          by_cases c31 : 0 ≤ x7_1
          ·rw [if_pos c31] at H
           have c31b0 : decide (0 ≤ x7_1) = true := decide_eq_true c31
           clear c31
           by_cases c32 : x7_1 < (l0.length : Int)
           ·rw [if_pos c32] at H
            have c32b0 : decide (x7_1 < (l0.length : Int)) = true := decide_eq_true c32
            clear c32
            by_cases c33 : x6_1.length < 4398046511104
            ·rw [if_pos c33] at H
             have LMc33 := Az_.mk c33
             clear c33
             obtain ⟨y422, hy422⟩ : ∃ y_ : List (S24), y_ = (x6_1 ++ [(⟨(rd_T24 l0 x7_1).f0, (rd_T24 l0 x7_1).f1⟩ : S24)]) := ⟨_, rfl⟩
             replace H : (soritesref14_less.l0 k2 l0 l1 x5_2 y422 (wrap64 (x7_1 + 1))) = some r := by first | (rw [hy422]; with_reducible exact H) | (have H2_ := (Option.bind_some _ _).symm.trans H; rw [hy422]; with_reducible exact H2_) | (have H2_ := (Option.bind_some _ _).symm.trans H; with_reducible exact H2_) | with_reducible exact H | (rw [hy422]; exact H) | exact H
             have Ny422 := Az_.mk hy422
             clear hy422
             have H' := Az_.mk H
             clear H
             have p421 : 0 ≤ (x7_1 : Int) := of_decide_eq_true (by first | (with_reducible assumption) | assumption)
             have q421 : x7_1 < (l0.length : Int) := of_decide_eq_true (by first | (with_reducible assumption) | assumption)
             obtain ⟨ad421, A421_1, c421_1, e421, hx421_0, hx421_1, hl421_1, hi421_1⟩ := at_T24 (Kd.V_reads' HO_0.out).2.2 x7_1 p421 q421
             cases e421
             obtain ⟨ce421, hce421, hMe421, hcc421⟩ := Kd.V_get HO_0.out z24 x7_1 p421 (by first | exact q421 | exact of_decide_eq_true (by first | (with_reducible assumption) | assumption) | (have e_ := (Kd.V_reads' HO_0.out).1; omega))
             obtain ⟨ua421_1, uc421_1, rfl, ul421_1, ge421_1⟩ := k24_openF hMe421
             have hv421_1 := hcc421 1 _ rfl
             rw [add_field _ _ 1 (by omega)] at hv421_1
             replace hv421_1 := Option.some.inj (hv421_1.symm.trans hx421_1)
             injection hv421_1 with hva_ hvn_ hvc_
             rw [hva_] at ge421_1
             rw [hvc_] at ul421_1
             have HL421_1 := Az_.mk (show Kd.V k24 24 _ w.heap.size _ _ ((rd_T24 l0 x7_1).f1) from Kd.V_mk ul421_1 ge421_1)
             clear hva_ hvn_ hvc_ ge421_1 ul421_1
             clear hcc421 hce421
             have HR421_1 := Az_.mk hi421_1
             have HC421_1 := Az_.mk hl421_1
             clear hi421_1 hl421_1
             replace p421 := eq_true p421
             replace q421 := eq_true q421
             go_wp2_with (first | ((with_reducible refine gate_builtin (b := .append) (xs := #[.tmp 50, .tmp 55]) rfl ?_); at_builtin; refine Kd.N_append k24 (w0 := w) w.heap.size rfl (.tmp 50) (.tmp 55) 22 24 (.agg #[(.int .i64 0), (.slice none 0 0)]) 32 rfl Try.underlying22 info24 rfl (by decide) (by omega) u6 x6_1 (⟨(rd_T24 l0 x7_1).f0, (rd_T24 l0 x7_1).f1⟩ : S24) [.int .i64 ((rd_T24 l0 x7_1).f0), .slice A421_1 ((rd_T24 l0 x7_1).f1).length c421_1] (fun k_ => (P0_ k_ ∨ w.heap.size ≤ k_) ∧ some k_ ≠ (v414 : Value).ownBlock) (fun k_ => ((fun k_ => (P0_ k_ ∨ w.heap.size ≤ k_) ∧ some k_ ≠ (v414 : Value).ownBlock)) k_ ∧ some k_ ≠ (u6 : Value).ownBlock) rfl rfl ?aP (fun _ hk => hk) ?aF ?aO ?aB ?aS ?aL ?_; (case aP => exact (k24_mkF _ _ (⟨(rd_T24 l0 x7_1).f0, (rd_T24 l0 x7_1).f1⟩ : S24) (Kd.V_reads' (Kd.V_mono (ok' := (fun k_ => ((fun k_ => (P0_ k_ ∨ w.heap.size ≤ k_) ∧ some k_ ≠ (v414 : Value).ownBlock)) k_ ∧ some k_ ≠ (u6 : Value).ownBlock)) (HL421_1.out) (fun k_ hk => ⟨⟨hk.1, hk.2.1⟩, hk.2.2⟩))).2.1 (Kd.V_F (Kd.V_mono (ok' := (fun k_ => ((fun k_ => (P0_ k_ ∨ w.heap.size ≤ k_) ∧ some k_ ≠ (v414 : Value).ownBlock)) k_ ∧ some k_ ≠ (u6 : Value).ownBlock)) (HL421_1.out) (fun k_ hk => ⟨⟨hk.1, hk.2.1⟩, hk.2.2⟩))))); (case aB => exact (bq_ HB)); (case aF => exact (fun k_ hk => ⟨(.inr (Nat.le_trans (bZ_ (bq_ HB)) hk)), Kd.fresh' (Kd.R_lt (rr_ HO_5)) k_ hk⟩)); (case aO => exact (nq_ HO_6)); (case aS => exact (bZ_ (bq_ HB))); (case aL => have := LMc33.out; omega); intro v423 w34 ho hb hg hat; rw [← Ny422.out] at ho; have n0_ := Az_.mk (Kd.V_afterv (ok := (fun k_ => (P0_ k_ ∨ w.heap.size ≤ k_) ∧ some k_ ≠ (v414 : Value).ownBlock)) (by (with_reducible repeat (first | apply Kd.V_alloc | apply Kd.V_drewN | apply Kd.V_drew)); exact Kd.V_mono HO_0.out (fun _ hk => ⟨⟨hk.1, hk.2.1⟩, hk.2.2⟩)) hg hat); have n1_ := Az_.mk (Kd.R_over' (rr_ HO_5) (Kd.N_typed (nq_ HO_6)) (by decide) hg); have n2_ := Az_.mk (Kd.V_afterv (ok := (fun k_ => (P0_ k_ ∨ w.heap.size ≤ k_) ∧ some k_ ≠ (v414 : Value).ownBlock)) (by (with_reducible repeat (first | apply Kd.V_alloc | apply Kd.V_drewN | apply Kd.V_drew)); exact Kd.V_mono HL421_1.out (fun _ hk => ⟨⟨hk.1, hk.2.1⟩, hk.2.2⟩)) hg hat); have n3_ := Az_.mk (hb); have n4_ := Az_.mk (ho); clear HO_0; clear HO_5; clear HL421_1; clear HB; clear HO_6; have HO_0 := n0_; have HO_5 := n1_; have HL421_1 := n2_; have HB := n3_; have HO424 := n4_; clear n0_ n1_ n2_ n3_ n4_; clear ho hb hg hat))
             go_roundg k2
             case measure => have := HK1.out; have := HK2.out; omega
             case rel => exact ⟨(x5_2), (y422), (wrap64 (x7_1 + 1)), sq_, H', ⟨by have := HK1.out; have := HK2.out; omega⟩, ⟨by (with_reducible repeat (first | apply Kd.V_alloc | apply Kd.V_drewN | apply Kd.V_drew)); exact Kd.V_mono HO_0.out (fun _ hk => ⟨hk.1.1, ⟨hk.1.2, hk.2⟩⟩)⟩, ⟨by (with_reducible repeat (first | apply Kd.R_alloc | apply Kd.R_drewN | apply Kd.R_drew)); exact HO_5.out⟩, ⟨by (with_reducible repeat (first | apply Kd.N_alloc | apply Kd.N_drewN | apply Kd.N_drew)); exact HO424.out⟩, ⟨bq_ HB⟩⟩
            ·rw [if_neg c33] at H
             exact absurd H (by simp)
           ·rw [if_neg c32] at H
            exact absurd H (by simp)
          ·rw [if_neg c31] at H
           exact absurd H (by simp)
     ·rw [if_neg c7] at H
      have c7b0 : decide (x7_1 < (l0.length : Int)) = false := decide_eq_false c7
      clear c7
      obtain rfl := Option.some.inj H
      go_wp2
      go_ret
      exact ⟨_, by first | rfl | (simp [yad_, yac_] <;> rfl) | (simp [*, yad_, yac_] <;> rfl), by (with_reducible repeat (first | apply Kd.N_alloc | apply Kd.N_drewN | apply Kd.N_drew)); exact Kd.N_mono HO_6.out (fun _ hk => hk.1), bq_ HB⟩
  ·rw [if_neg c4] at H
   exact absurd H (by simp)
 ·rw [if_neg c3] at H
  exact absurd H (by simp)
end
section
attribute [local go_sem] max2_int min2_int max_two min_two yal_ yak_ max_four min_four
mutual
def soritesref14_Multi.l0 : Nat → List (S24) → List (S24) → Int → Option (Bool)
 | 0, _, _, _ => none
 | k + 1, x5, x6, x7 => if x7 < (x6.length : Int) then (soritesref14_Multi.l1 k x5 x6 x7 false 0) else (some (decide ((x5.length : Int) > 0)))
def soritesref14_Multi.l1 : Nat → List (S24) → List (S24) → Int → Bool → Int → Option (Bool)
 | 0, _, _, _, _, _ => none
 | k + 1, x5, x6, x7, x8, x9 => if x9 < (x5.length : Int) then (if x8 = true then (soritesref14_Multi.l1 k x5 x6 x7 true (wrap64 (x9 + 1))) else (if 0 ≤ x9 then (if 0 ≤ x7 then (if x7 < (x6.length : Int) then ((soritesref10_Greater.f k ((rd_T24 x5 x9).f0) ((rd_T24 x5 x9).f1) ((rd_T24 x6 x7).f0) ((rd_T24 x6 x7).f1)).bind fun t433 => (soritesref14_Multi.l1 k x5 x6 x7 t433 (wrap64 (x9 + 1)))) else (none)) else (none)) else (none))) else (if x8 = true then (soritesref14_Multi.l0 k x5 x6 (wrap64 (x7 + 1))) else (some false))
end
def soritesref14_Multi.f (k : Nat) (l0 : List (S24)) (l1 : List (S24)) : Option (Bool) := (soritesref14_less.f k l0 l1).bind fun t425 => ((soritesref14_less.f k l1 l0).bind fun t428 => (soritesref14_Multi.l0 k t425 t428 0))
def soritesref14_Multi.T9 : Bool × List (List Nat × List Nat) := (true, [([], []), ([0], [0]), ([1], [1]), ([1], [1]), ([2, 3, 1], [1, 2, 3]), ([4, 1], [1, 4]), ([1], [1]), ([1], [1]), ([6, 7, 1], [1, 6, 7]), ([8, 1], [1, 8]), ([5, 9, 1, 1], [1, 5, 9]), ([1, 10], [1, 10]), ([11, 10, 0, 1, 2, 3, 4, 5, 6, 7, 8, 9, 10, 11], [0, 11])])
def soritesref14_Multi.B9 : List Nat := [0, 1, 3, 3, 15, 31, 3, 3, 195, 451, 1023, 2047, 4095]
theorem soritesref14_Multi.tab9 : rtab .any (opsOf Try.f70 9) = soritesref14_Multi.T9 := by kernel_rfl
theorem soritesref14_Multi.bits9 : waitsOk soritesref14_Multi.T9.2 soritesref14_Multi.B9 = true := by kernel_rfl
set_option maxHeartbeats 8000000 in
set_option maxRecDepth 100000 in
theorem soritesref14_Multi.calls (k : Nat) (A0 : Option Addr) (c0 : Nat) (l0 : List (S24)) (A1 : Option Addr) (c1 : Nat) (l1 : List (S24)) (r : Bool) (w : World) (hr0 : Kd.C k24 w A0 l0.length l0) (hc0 : l0.length ≤ c0) (hr1 : Kd.C k24 w A1 l1.length l1) (hc1 : l1.length ≤ c1) (h : soritesref14_Multi.f k l0 l1 = some r) :
  Calls Try.prog 70 #[.slice A0 l0.length c0, .slice A1 l1.length c1] w fun e w' => e = .returned (.bool r) ∧ Below w.heap.size w w' := by
 have hu24 := Try.underlying24
 have HR0 := Az_.mk hr0
 have HC0 := Az_.mk hc0
 clear hr0 hc0
 have HR1 := Az_.mk hr1
 have HC1 := Az_.mk hc1
 clear hr1 hc1
 have HB := Az_.mk (Below.refl w.heap.size w)
 have H : ((soritesref14_less.f k l0 l1).bind fun t425 => ((soritesref14_less.f k l1 l0).bind fun t428 => (soritesref14_Multi.l0 k t425 t428 0))) = some r := h
 clear h
 replace H := Option.bind_eq_some_iff.mp H
 obtain ⟨t425, A30, H⟩ := H
 replace H : ((soritesref14_less.f k l1 l0).bind fun t428 => (soritesref14_Multi.l0 k t425 t428 0)) = some r := H
 have A3 := Az_.mk A30
 clear A30
 replace H := Option.bind_eq_some_iff.mp H
 obtain ⟨t428, A40, H⟩ := H
 replace H : (soritesref14_Multi.l0 k t425 t428 0) = some r := H
 have A4 := Az_.mk A40
 clear A40
 have H' := Az_.mk H
 clear H
 go_enter Try.func70, Try.ntmps70
 go_wp2_with (first | ((with_reducible refine yaf_ (f := 101) rfl ?_); refine goesL_ (some 12) rfl rfl Try.func101 (by kernel_rfl) rfl #[.slice A0 l0.length c0, .slice A1 l1.length c1] rfl mq_ ?_; (with_reducible refine (soritesref14_less.calls k (fun k_ => k_ < w.heap.size) _ _ l0 _ _ l1 t425 _ ?side1 ?side2 ?side3 A3.out).mono ?_); (case side1 => exact Kd.V_mk HC0.out (Kd.F_below (Kd.C_F k24_heap HR0.out) (bq_ HB))); (case side2 => repeat (first | exact HR1.out | (with_reducible refine Kd.C_alloc ?_ _) | (with_reducible refine Kd.C_drewN ?_ _) | (with_reducible refine Kd.C_drew ?_))); (case side3 => exact HC1.out); rintro e w5 ⟨v426, rfl, ho0, hb⟩; refine ⟨_, rfl, ?_⟩; have HO427 := Az_.mk (Kd.N_lower (Kd.N_mono (ok' := fun k_ => True) ho0 (fun k_ hk_ => trivial)) (bZ_ (bq_ HB))); replace HB := Az_.mk (bT_ (bq_ HB) hb); (try clear hb); (try clear hb2); (try clear hk); (try clear hi); (try clear ho0)) | ((with_reducible refine yaf_ (f := 101) rfl ?_); refine goesL_ (some 15) rfl rfl Try.func101 (by kernel_rfl) rfl #[.slice A1 l1.length c1, .slice A0 l0.length c0] rfl mq_ ?_; (with_reducible refine (soritesref14_less.calls k (fun k_ => k_ < w.heap.size) _ _ l1 _ _ l0 t428 _ ?side1 ?side2 ?side3 A4.out).mono ?_); (case side1 => exact Kd.V_mk HC1.out (Kd.F_below (Kd.C_F k24_heap HR1.out) (bq_ HB))); (case side2 => exact cq_ (Kd.C_below HR0.out HB.out)); (case side3 => exact HC0.out); rintro e w6 ⟨v429, rfl, ho0, hb⟩; refine ⟨_, rfl, ?_⟩; have HO430 := Az_.mk (Kd.N_lower (Kd.N_mono (ok' := fun k_ => some k_ ≠ (v426 : Value).ownBlock) ho0 (fun k_ hk_ => Or.elim hk_ (fun hs_ => fun e_ => Nat.not_le.2 hs_ (Kd.N_base HO427.out k_ e_.symm)) (fun hn_ => (Kd.fresh' (Kd.N_lt (nq_ HO427)) k_ hn_)))) (bZ_ (bq_ HB))); replace HO427 := Az_.mk (Kd.N_elder' (nq_ HO427) (Kd.N_base ho0) hb); replace HB := Az_.mk (bT_ (bq_ HB) hb); (try clear hb); (try clear hb2); (try clear hk); (try clear hi); (try clear ho0)))
 go_loopg [7] k (fun kq v7 w' => ∃ (x7_1 : Int), v7 = .int .i64 x7_1 ∧ Az_ (soritesref14_Multi.l0 kq t425 t428 x7_1 = some r) ∧ Az_ (kq ≤ k) ∧ Az_ (Kd.N k24 24 w' w.heap.size (fun k_ => some k_ ≠ (v429 : Value).ownBlock) v426 t425) ∧ Az_ (Kd.N k24 24 w' w.heap.size (fun k_ => some k_ ≠ (v426 : Value).ownBlock) v429 t428) ∧ Az_ (Below w.heap.size w w'))
 case atStart => exact ⟨(0), sq_, H', ⟨Nat.le_refl _⟩, ⟨by (with_reducible repeat (first | apply Kd.N_alloc | apply Kd.N_drewN | apply Kd.N_drew)); exact Kd.N_mono HO427.out (fun _ hk => hk.2)⟩, ⟨by (with_reducible repeat (first | apply Kd.N_alloc | apply Kd.N_drewN | apply Kd.N_drew)); exact HO430.out⟩, ⟨bq_ HB⟩⟩
 case round =>
  clear H'
  try clear c1
  try clear p2
  obtain ⟨x7_1, rfl, HA, HK1, HO_5, HO_6, HB⟩ := hrel
  cases gk with
  | zero => exact absurd HA.out (by simp [soritesref14_Multi.l0])
  | succ k1 =>
   have H := HA.out
   clear HA
   simp only [soritesref14_Multi.l0] at H
   by_cases c7 : x7_1 < (t428.length : Int)
   ·rw [if_pos c7] at H
    have c7b0 : decide (x7_1 < (t428.length : Int)) = true := decide_eq_true c7
    clear c7
    have H' := Az_.mk H
    clear H
    obtain ⟨Ao8, co8, eo8⟩ := Kd.N_slice HO_6.out
    subst eo8
    go_wp2
    go_loopg [8, 9] k1 (fun kq v8 v9 w' => ∃ (x8_2 : Bool) (x9_2 : Int), v8 = .bool x8_2 ∧ v9 = .int .i64 x9_2 ∧ Az_ (soritesref14_Multi.l1 kq t425 t428 x7_1 x8_2 x9_2 = some r) ∧ Az_ (kq ≤ k1) ∧ Az_ (Kd.N k24 24 w' w.heap.size (fun k_ => some k_ ≠ ((.slice Ao8 t428.length co8) : Value).ownBlock) v426 t425) ∧ Az_ (Kd.N k24 24 w' w.heap.size (fun k_ => some k_ ≠ (v426 : Value).ownBlock) (.slice Ao8 t428.length co8) t428) ∧ Az_ (Below w.heap.size w w'))
    case atStart => exact ⟨(false), (0), sq_, sq_, H', ⟨Nat.le_refl _⟩, ⟨by (with_reducible repeat (first | apply Kd.N_alloc | apply Kd.N_drewN | apply Kd.N_drew)); exact HO_5.out⟩, ⟨by (with_reducible repeat (first | apply Kd.N_alloc | apply Kd.N_drewN | apply Kd.N_drew)); exact HO_6.out⟩, ⟨bq_ HB⟩⟩
    case round =>
     clear H'
     try clear c1
     try clear p2
     try clear c7
     try clear c7b0
     try clear p2
     obtain ⟨x8_2, x9_2, rfl, rfl, HA, HK2, HO_5, HO_6, HB⟩ := hrel
     cases gk with
     | zero => exact absurd HA.out (by simp [soritesref14_Multi.l1])
     | succ k2 =>
      have H := HA.out
      clear HA
      simp only [soritesref14_Multi.l1] at H
      by_cases c9 : x9_2 < (t425.length : Int)
      ·rw [if_pos c9] at H
       have c9b0 : decide (x9_2 < (t425.length : Int)) = true := decide_eq_true c9
       clear c9
       by_cases c10 : x8_2 = true
       ·subst c10
        have H1 : (soritesref14_Multi.l1 k2 t425 t428 x7_1 true (wrap64 (x9_2 + 1))) = some r := by rw [if_pos rfl] at H; exact H
        clear H
        have H := H1
        clear H1
        have H' := Az_.mk H
        clear H
        obtain ⟨Ao11, co11, eo11⟩ := Kd.N_slice HO_5.out
        subst eo11
        try go_wp2
        replace HO_5 := Az_.mk (Kd.N_drew HO_5.out)
        replace HO_6 := Az_.mk (Kd.N_drew HO_6.out)
        replace HB := Az_.mk (bD_ HB.out)
        refine start_ (n := 13) (S := fun w' => True) (ds := []) #[false, false, false, false, false, false, false, false, false, false, false, false, false] (by kernel_rfl) rfl rfl trivial (fun hHeld => ?_); refine with_tabW soritesref14_Multi.tab9 soritesref14_Multi.bits9 (fun HT_ HW_ => ?_)
        generalize wr.drew = w12 at HO_5 HO_6 HB hHeld ⊢
        refine pa_ 0 28 HT_ ?_
        refine pa_ 1 29 HT_ ?_
        refine pu_ 2 30 HT_ ?_
        refine pu_ 3 31 HT_ ?_
        refine pu_ 4 32 HT_ ?_
        refine pu_ 5 33 HT_ ?_
        refine pu_ 6 34 HT_ ?_
        refine pu_ 7 35 HT_ ?_
        refine pu_ 8 36 HT_ ?_
        refine pu_ 9 37 HT_ ?_
        refine pu_ 10 38 HT_ ?_
        refine pa_ 11 39 HT_ ?_
        refine pa_ 12 8 HT_ ?_
        refine done_ (done_of HT_.out (by kernel_rfl)) ?_
        try go_wp2
        go_roundg k2
        case measure => have := HK1.out; have := HK2.out; omega
        case rel => exact ⟨(true), (wrap64 (x9_2 + 1)), sq_, sq_, H', ⟨by have := HK1.out; have := HK2.out; omega⟩, ⟨by (with_reducible repeat (first | apply Kd.N_alloc | apply Kd.N_drewN | apply Kd.N_drew)); exact HO_5.out⟩, ⟨by (with_reducible repeat (first | apply Kd.N_alloc | apply Kd.N_drewN | apply Kd.N_drew)); exact HO_6.out⟩, ⟨bq_ HB⟩⟩
       ·replace c10 := Bool.eq_false_iff.mpr c10
        subst c10
        have H1 : (if 0 ≤ x9_2 then (if 0 ≤ x7_1 then (if x7_1 < (t428.length : Int) then ((soritesref10_Greater.f k2 ((rd_T24 t425 x9_2).f0) ((rd_T24 t425 x9_2).f1) ((rd_T24 t428 x7_1).f0) ((rd_T24 t428 x7_1).f1)).bind fun t433 => (soritesref14_Multi.l1 k2 t425 t428 x7_1 t433 (wrap64 (x9_2 + 1)))) else (none)) else (none)) else (none)) = some r := by rw [if_neg (show ¬ (false = true) by decide)] at H; exact H
        clear H
        have H := H1
        clear H1
        by_cases c13 : 0 ≤ x9_2
        ·rw [if_pos c13] at H
         have c13b0 : decide (0 ≤ x9_2) = true := decide_eq_true c13
         clear c13
         by_cases c14 : 0 ≤ x7_1
         ·rw [if_pos c14] at H
          have c14b0 : decide (0 ≤ x7_1) = true := decide_eq_true c14
          clear c14
          by_cases c15 : x7_1 < (t428.length : Int)
          ·rw [if_pos c15] at H
           have c15b0 : decide (x7_1 < (t428.length : Int)) = true := decide_eq_true c15
           clear c15
           replace H := Option.bind_eq_some_iff.mp H
           obtain ⟨t433, A160, H⟩ := H
           replace H : (soritesref14_Multi.l1 k2 t425 t428 x7_1 t433 (wrap64 (x9_2 + 1))) = some r := H
           have A16 := Az_.mk A160
           clear A160
           have H' := Az_.mk H
           clear H
           obtain ⟨Ao17, co17, eo17⟩ := Kd.N_slice HO_5.out
           subst eo17
           try go_wp2
           replace HO_5 := Az_.mk (Kd.N_drew HO_5.out)
           replace HO_6 := Az_.mk (Kd.N_drew HO_6.out)
           replace HB := Az_.mk (bD_ HB.out)
           have p431 : 0 ≤ (x9_2 : Int) := of_decide_eq_true (by first | (with_reducible assumption) | assumption)
           have q431 : x9_2 < (t425.length : Int) := of_decide_eq_true (by first | (with_reducible assumption) | assumption)
           obtain ⟨ad431, A431_1, c431_1, e431, hx431_0, hx431_1, hl431_1, hi431_1⟩ := at_T24 (Kd.N_reads' HO_5.out).2.2 x9_2 p431 q431
           cases e431
           obtain ⟨ce431, hce431, hMe431, hcc431⟩ := Kd.N_get HO_5.out z24 x9_2 p431 (by first | exact q431 | exact of_decide_eq_true (by first | (with_reducible assumption) | assumption) | (have e_ := (Kd.N_reads' HO_5.out).1; omega))
           obtain ⟨ua431_1, uc431_1, rfl, ul431_1, ge431_1⟩ := k24_openF hMe431
           have hv431_1 := hcc431 1 _ rfl
           rw [add_field _ _ 1 (by omega)] at hv431_1
           replace hv431_1 := Option.some.inj (hv431_1.symm.trans hx431_1)
           injection hv431_1 with hva_ hvn_ hvc_
           rw [hva_] at ge431_1
           rw [hvc_] at ul431_1
           have HL431_1 := Az_.mk (show Kd.V k24 24 _ w.heap.size _ _ ((rd_T24 t425 x9_2).f1) from Kd.V_mk ul431_1 ge431_1)
           clear hva_ hvn_ hvc_ ge431_1 ul431_1
           clear hcc431 hce431
           have HR431_1 := Az_.mk hi431_1
           have HC431_1 := Az_.mk hl431_1
           clear hi431_1 hl431_1
           replace p431 := eq_true p431
           replace q431 := eq_true q431
           have p432 : 0 ≤ (x7_1 : Int) := of_decide_eq_true (by first | (with_reducible assumption) | assumption)
           have q432 : x7_1 < (t428.length : Int) := of_decide_eq_true (by first | (with_reducible assumption) | assumption)
           obtain ⟨ad432, A432_1, c432_1, e432, hx432_0, hx432_1, hl432_1, hi432_1⟩ := at_T24 (Kd.N_reads' HO_6.out).2.2 x7_1 p432 q432
           cases e432
           obtain ⟨ce432, hce432, hMe432, hcc432⟩ := Kd.N_get HO_6.out z24 x7_1 p432 (by first | exact q432 | exact of_decide_eq_true (by first | (with_reducible assumption) | assumption) | (have e_ := (Kd.N_reads' HO_6.out).1; omega))
           obtain ⟨ua432_1, uc432_1, rfl, ul432_1, ge432_1⟩ := k24_openF hMe432
           have hv432_1 := hcc432 1 _ rfl
           rw [add_field _ _ 1 (by omega)] at hv432_1
           replace hv432_1 := Option.some.inj (hv432_1.symm.trans hx432_1)
           injection hv432_1 with hva_ hvn_ hvc_
           rw [hva_] at ge432_1
           rw [hvc_] at ul432_1
           have HL432_1 := Az_.mk (show Kd.V k24 24 _ w.heap.size _ _ ((rd_T24 t428 x7_1).f1) from Kd.V_mk ul432_1 ge432_1)
           clear hva_ hvn_ hvc_ ge432_1 ul432_1
           clear hcc432 hce432
           have HR432_1 := Az_.mk hi432_1
           have HC432_1 := Az_.mk hl432_1
           clear hi432_1 hl432_1
           replace p432 := eq_true p432
           replace q432 := eq_true q432
           refine start_ (n := 13) (S := fun w' => w'.cell? (ad431.add ((x9_2).toNat * 2)) = some (.int .i64 ((rd_T24 t425 x9_2).f0)) ∧ w'.cell? ⟨(ad431.add ((x9_2).toNat * 2)).block, (ad431.add ((x9_2).toNat * 2)).off + 1, none⟩ = some (.slice A431_1 ((rd_T24 t425 x9_2).f1).length c431_1) ∧ w'.cell? (ad432.add ((x7_1).toNat * 2)) = some (.int .i64 ((rd_T24 t428 x7_1).f0)) ∧ w'.cell? ⟨(ad432.add ((x7_1).toNat * 2)).block, (ad432.add ((x7_1).toNat * 2)).off + 1, none⟩ = some (.slice A432_1 ((rd_T24 t428 x7_1).f1).length c432_1)) (ds := []) #[false, false, false, false, false, false, false, false, false, false, false, false, false] (by kernel_rfl) rfl rfl ⟨hx431_0, hx431_1, hx432_0, hx432_1⟩ (fun hHeld => ?_); refine with_tabW soritesref14_Multi.tab9 soritesref14_Multi.bits9 (fun HT_ HW_ => ?_)
           generalize wr.drew = w18 at HO_5 HO_6 HB HL431_1 HL432_1 HR431_1 HR432_1 hx431_0 hx431_1 hx432_0 hx432_1 hHeld ⊢
           refine pa_ 0 28 HT_ ?_
           refine pa_ 1 29 HT_ ?_
           refine pa_ 2 30 HT_ ?_
           refine pa_ 3 31 HT_ ?_
           refine pa_ 4 32 HT_ ?_
           refine pa_ 6 34 HT_ ?_
           refine pa_ 7 35 HT_ ?_
           refine pa_ 8 36 HT_ ?_
           refine ta4_ 5 33 HT_ HW_ hHeld ?_
           refine ta4_ 9 37 HT_ HW_ hHeld ?_
           refine one_ (i := 10) (N := some 38) #[true, true, true, true, true, true, true, true, true, true, true, false, false] rfl rfl (one_of HT_.out (by kernel_rfl)) (by decide) (fun K hK => ?_)
           refine goes_ Try.func42 (by kernel_rfl) rfl #[.agg #[.int .i64 ((rd_T24 t425 x9_2).f0), .slice A431_1 ((rd_T24 t425 x9_2).f1).length c431_1], .agg #[.int .i64 ((rd_T24 t428 x7_1).f0), .slice A432_1 ((rd_T24 t428 x7_1).f1).length c432_1]] (by rfl) rfl rfl mq_ ?_
           with_reducible refine (soritesref10_Greater.calls k2 ((rd_T24 t425 x9_2).f0) _ _ ((rd_T24 t425 x9_2).f1) ((rd_T24 t428 x7_1).f0) _ _ ((rd_T24 t428 x7_1).f1) t433 _ ?side1 ?side2 ?side3 ?side4 A16.out).mono ?_
           (case side1 => repeat (first | exact (by repeat (first | (with_reducible exact HR431_1.out) | (with_reducible refine Kd.C_alloc ?_ _) | (with_reducible refine Kd.C_drewN ?_ _) | (with_reducible refine Kd.C_drew ?_) | exact HR431_1.out)) | (with_reducible refine Kd.C_alloc ?_ _) | (with_reducible refine Kd.C_drewN ?_ _) | (with_reducible refine Kd.C_drew ?_)))
           (case side2 => exact HC431_1.out)
           (case side3 => repeat (first | exact (by repeat (first | (with_reducible exact HR432_1.out) | (with_reducible refine Kd.C_alloc ?_ _) | (with_reducible refine Kd.C_drewN ?_ _) | (with_reducible refine Kd.C_drew ?_) | exact HR432_1.out)) | (with_reducible refine Kd.C_alloc ?_ _) | (with_reducible refine Kd.C_drewN ?_ _) | (with_reducible refine Kd.C_drew ?_)))
           (case side4 => exact HC432_1.out)
           rintro e w19 ⟨rfl, hb⟩
           have HS0_ := (hb.cell (World.block_lt_of_cell? _ _ (hHeld.1))).trans (hHeld.1)
           have HS1_ := (hb.cell (World.block_lt_of_cell? _ _ (hHeld.2.1))).trans (hHeld.2.1)
           have HS2_ := (hb.cell (World.block_lt_of_cell? _ _ (hHeld.2.2.1))).trans (hHeld.2.2.1)
           have HS3_ := (hb.cell (World.block_lt_of_cell? _ _ (hHeld.2.2.2))).trans (hHeld.2.2.2)
           refine ⟨_, rfl, ?_⟩
           replace HO_5 := Az_.mk (Kd.N_below (nq_ HO_5) hb)
           replace HO_6 := Az_.mk (Kd.N_below (nq_ HO_6) hb)
           replace HL431_1 := Az_.mk (Kd.V_below (vq_ HL431_1) hb)
           replace HL432_1 := Az_.mk (Kd.V_below (vq_ HL432_1) hb)
           replace HR431_1 := Az_.mk (Kd.C_below (by repeat (first | (with_reducible exact HR431_1.out) | (with_reducible refine Kd.C_alloc ?_ _) | (with_reducible refine Kd.C_drewN ?_ _) | (with_reducible refine Kd.C_drew ?_) | exact HR431_1.out)) hb)
           replace HR432_1 := Az_.mk (Kd.C_below (by repeat (first | (with_reducible exact HR432_1.out) | (with_reducible refine Kd.C_alloc ?_ _) | (with_reducible refine Kd.C_drewN ?_ _) | (with_reducible refine Kd.C_drew ?_) | exact HR432_1.out)) hb)
           replace HB := Az_.mk (bT_ (bq_ HB) hb)
           (try clear hb)
           (try clear hb2)
           (try clear hk)
           (try clear hi)
           refine hK.out _ _ ⟨HS0_, HS1_, HS2_, HS3_⟩ (fun hHeld => ?_)
           clear hK K
           refine norm_ (a' := ?_) ?_ ?_
           rotate_left
           ·show Act.put _ (some 38) _ = _
            simp only [Act.put, sA_, sZ_, sS_, i64_w, i32_w]
            rfl
           refine pa_ 11 39 HT_ ?_
           refine pa_ 12 8 HT_ ?_
           refine done_ (done_of HT_.out (by kernel_rfl)) ?_
           try go_wp2
           go_roundg k2
           case measure => have := HK1.out; have := HK2.out; omega
           case rel => exact ⟨(t433), (wrap64 (x9_2 + 1)), sq_, sq_, H', ⟨by have := HK1.out; have := HK2.out; omega⟩, ⟨by (with_reducible repeat (first | apply Kd.N_alloc | apply Kd.N_drewN | apply Kd.N_drew)); exact HO_5.out⟩, ⟨by (with_reducible repeat (first | apply Kd.N_alloc | apply Kd.N_drewN | apply Kd.N_drew)); exact HO_6.out⟩, ⟨bq_ HB⟩⟩
          ·rw [if_neg c15] at H
           exact absurd H (by simp)
         ·rw [if_neg c14] at H
          exact absurd H (by simp)
        ·rw [if_neg c13] at H
         exact absurd H (by simp)
      ·rw [if_neg c9] at H
       have c9b0 : decide (x9_2 < (t425.length : Int)) = false := decide_eq_false c9
       clear c9
       by_cases c20 : x8_2 = true
       ·subst c20
        have H1 : (soritesref14_Multi.l0 k2 t425 t428 (wrap64 (x7_1 + 1))) = some r := by rw [if_pos rfl] at H; exact H
        clear H
        have H := H1
        clear H1
        have H' := Az_.mk H
        clear H
        obtain ⟨Ao21, co21, eo21⟩ := Kd.N_slice HO_5.out
        subst eo21
        go_wp2
        go_roundg k2
        case measure => have := HK1.out; have := HK2.out; omega
        case rel => exact ⟨(wrap64 (x7_1 + 1)), sq_, H', ⟨by have := HK1.out; have := HK2.out; omega⟩, ⟨by (with_reducible repeat (first | apply Kd.N_alloc | apply Kd.N_drewN | apply Kd.N_drew)); exact HO_5.out⟩, ⟨by (with_reducible repeat (first | apply Kd.N_alloc | apply Kd.N_drewN | apply Kd.N_drew)); exact HO_6.out⟩, ⟨bq_ HB⟩⟩
       ·replace c20 := Bool.eq_false_iff.mpr c20
        subst c20
        have H1 : (some false) = some r := by rw [if_neg (show ¬ (false = true) by decide)] at H; exact H
        clear H
        have H := H1
        clear H1
        obtain rfl := Option.some.inj H
        obtain ⟨Ao22, co22, eo22⟩ := Kd.N_slice HO_5.out
        subst eo22
        go_wp2
        go_ret
        exact ⟨by first | rfl | (simp [yad_, yac_] <;> rfl) | (simp [*, yad_, yac_] <;> rfl), bq_ HB⟩
   ·rw [if_neg c7] at H
    have c7b0 : decide (x7_1 < (t428.length : Int)) = false := decide_eq_false c7
    clear c7
    obtain rfl := Option.some.inj H
    obtain ⟨Ao23, co23, eo23⟩ := Kd.N_slice HO_6.out
    subst eo23
    obtain ⟨Ao24, co24, eo24⟩ := Kd.N_slice HO_5.out
    subst eo24
    go_wp2
    go_ret
    exact ⟨by first | rfl | (simp [yad_, yac_] <;> rfl) | (simp [*, yad_, yac_] <;> rfl), bq_ HB⟩
end
section
attribute [local go_sem] max2_int min2_int max_two min_two yal_ yak_ max_four min_four
def soritesref14_Greater.f (k : Nat) (a0_0 : Bool) (a0_1 : Int) (l0_2 : List (S24)) (a0_3 : Int) (l0_4 : List (S24)) (a1_0 : Bool) (a1_1 : Int) (l1_2 : List (S24)) (a1_3 : Int) (l1_4 : List (S24)) : Option (Bool) := (soritesref14_Terms.f a0_0 a0_1 l0_2 a0_3 l0_4).bind fun t436 => ((soritesref14_Terms.f a1_0 a1_1 l1_2 a1_3 l1_4).bind fun t439 => ((soritesref14_Multi.f k t436 t439).bind fun t442 => (some t442)))
set_option maxHeartbeats 8000000 in
set_option maxRecDepth 100000 in
theorem soritesref14_Greater.calls (k : Nat) (a0_0 : Bool) (a0_1 : Int) (A0_2 : Option Addr) (c0_2 : Nat) (l0_2 : List (S24)) (a0_3 : Int) (A0_4 : Option Addr) (c0_4 : Nat) (l0_4 : List (S24)) (a1_0 : Bool) (a1_1 : Int) (A1_2 : Option Addr) (c1_2 : Nat) (l1_2 : List (S24)) (a1_3 : Int) (A1_4 : Option Addr) (c1_4 : Nat) (l1_4 : List (S24)) (r : Bool) (w : World) (hr0_2 : Kd.C k24 w A0_2 l0_2.length l0_2) (hc0_2 : l0_2.length ≤ c0_2) (hr0_4 : Kd.C k24 w A0_4 l0_4.length l0_4) (hc0_4 : l0_4.length ≤ c0_4) (hr1_2 : Kd.C k24 w A1_2 l1_2.length l1_2) (hc1_2 : l1_2.length ≤ c1_2) (hr1_4 : Kd.C k24 w A1_4 l1_4.length l1_4) (hc1_4 : l1_4.length ≤ c1_4) (h : soritesref14_Greater.f k a0_0 a0_1 l0_2 a0_3 l0_4 a1_0 a1_1 l1_2 a1_3 l1_4 = some r) :
  Calls Try.prog 67 #[.agg #[.bool a0_0, .int .i64 a0_1, .slice A0_2 l0_2.length c0_2, .int .i64 a0_3, .slice A0_4 l0_4.length c0_4], .agg #[.bool a1_0, .int .i64 a1_1, .slice A1_2 l1_2.length c1_2, .int .i64 a1_3, .slice A1_4 l1_4.length c1_4]] w fun e w' => e = .returned (.bool r) ∧ Below w.heap.size w w' := by
 have hu81 := Try.underlying81
 have HR0_2 := Az_.mk hr0_2
 have HC0_2 := Az_.mk hc0_2
 clear hr0_2 hc0_2
 have HR0_4 := Az_.mk hr0_4
 have HC0_4 := Az_.mk hc0_4
 clear hr0_4 hc0_4
 have HR1_2 := Az_.mk hr1_2
 have HC1_2 := Az_.mk hc1_2
 clear hr1_2 hc1_2
 have HR1_4 := Az_.mk hr1_4
 have HC1_4 := Az_.mk hc1_4
 clear hr1_4 hc1_4
 have HB := Az_.mk (Below.refl w.heap.size w)
 have H : ((soritesref14_Terms.f a0_0 a0_1 l0_2 a0_3 l0_4).bind fun t436 => ((soritesref14_Terms.f a1_0 a1_1 l1_2 a1_3 l1_4).bind fun t439 => ((soritesref14_Multi.f k t436 t439).bind fun t442 => (some t442)))) = some r := h
 clear h
 replace H := Option.bind_eq_some_iff.mp H
 obtain ⟨t436, A30, H⟩ := H
 replace H : ((soritesref14_Terms.f a1_0 a1_1 l1_2 a1_3 l1_4).bind fun t439 => ((soritesref14_Multi.f k t436 t439).bind fun t442 => (some t442))) = some r := H
 have A3 := Az_.mk A30
 clear A30
 replace H := Option.bind_eq_some_iff.mp H
 obtain ⟨t439, A40, H⟩ := H
 replace H : ((soritesref14_Multi.f k t436 t439).bind fun t442 => (some t442)) = some r := H
 have A4 := Az_.mk A40
 clear A40
 replace H := Option.bind_eq_some_iff.mp H
 obtain ⟨t442, A50, H⟩ := H
 replace H : (some t442) = some r := H
 have A5 := Az_.mk A50
 clear A50
 obtain rfl := Option.some.inj H
 go_enter Try.func67, Try.ntmps67
 try go_wp2_with (first | ((with_reducible refine yag_ (N := 2) rfl ?_); refine yah_ ?hg (N := 2) ?hd (cs := #[.bool a0_0, .int .i64 a0_1, .slice A0_2 l0_2.length c0_2, .int .i64 a0_3, .slice A0_4 l0_4.length c0_4]) (t := 81) ?hr ?_; (case hd => rfl); (case hg => rfl); (case hr => exact rq_); intro gb434 hg w6 hbox hb; have BK434 := Az_.mk (hbox); have GW434 := Az_.mk ((by rw [hg]; exact (bZ_ (bq_ HB)) : w.heap.size ≤ gb434)); have GE434 := Az_.mk ((by rw [hg]; exact (bZ_ (bq_ HB)) : w.heap.size ≤ gb434)); replace HB := Az_.mk (bT_ (bq_ HB) hb); clear hb hbox hg) | ((with_reducible refine yag_ (N := 3) rfl ?_); refine yah_ ?hg (N := 3) ?hd (cs := #[.bool a1_0, .int .i64 a1_1, .slice A1_2 l1_2.length c1_2, .int .i64 a1_3, .slice A1_4 l1_4.length c1_4]) (t := 81) ?hr ?_; (case hd => rfl); (case hg => rfl); (case hr => exact rq_); intro gb435 hg w7 hbox hb; have BK435 := Az_.mk (hbox); have GW435 := Az_.mk ((by rw [hg]; exact (bZ_ (bq1_ HB GE434)) : w.heap.size ≤ gb435)); have GE435 := Az_.mk ((by rw [hg]; exact (bZ_ (bq1_ HB GE434)) : w.heap.size ≤ gb435)); replace HB := Az_.mk (bT_ (bq1_ HB GE434) hb); have NB434_435 := Az_.mk ((by rw [hg]; exact Nat.ne_of_lt (blk_lt (g := gb434) (o := .cells #[.bool a0_0, .int .i64 a0_1, .slice A0_2 l0_2.length c0_2, .int .i64 a0_3, .slice A0_4 l0_4.length c0_4] 81 (0, 0)) (kq_ BK434)) : gb434 ≠ gb435)); have NB435_434 := Az_.mk ((by rw [hg]; exact Nat.ne_of_gt (blk_lt (g := gb434) (o := .cells #[.bool a0_0, .int .i64 a0_1, .slice A0_2 l0_2.length c0_2, .int .i64 a0_3, .slice A0_4 l0_4.length c0_4] 81 (0, 0)) (kq_ BK434)) : gb435 ≠ gb434)); replace BK434 := kb_ BK434 hb; clear hb hbox hg))
 replace BK434 := Az_.mk (kD_ BK434.out)
 replace BK435 := Az_.mk (kD_ BK435.out)
 replace HB := Az_.mk (bD_ HB.out)
 refine start_ (n := 6) (S := fun w' => w'.cell? ⟨gb434, 0, none⟩ = some (.bool a0_0) ∧ w'.cell? ⟨gb434, 1, none⟩ = some (.int .i64 a0_1) ∧ w'.cell? ⟨gb434, 2, none⟩ = some (.slice A0_2 l0_2.length c0_2) ∧ w'.cell? ⟨gb434, 3, none⟩ = some (.int .i64 a0_3) ∧ w'.cell? ⟨gb434, 4, none⟩ = some (.slice A0_4 l0_4.length c0_4) ∧ w'.cell? ⟨gb435, 0, none⟩ = some (.bool a1_0) ∧ w'.cell? ⟨gb435, 1, none⟩ = some (.int .i64 a1_1) ∧ w'.cell? ⟨gb435, 2, none⟩ = some (.slice A1_2 l1_2.length c1_2) ∧ w'.cell? ⟨gb435, 3, none⟩ = some (.int .i64 a1_3) ∧ w'.cell? ⟨gb435, 4, none⟩ = some (.slice A1_4 l1_4.length c1_4)) (ds := []) #[false, false, false, false, false, false] (by kernel_rfl) rfl rfl ⟨(yaa_ BK434.out 0).trans rfl, (yaa_ BK434.out 1).trans rfl, (yaa_ BK434.out 2).trans rfl, (yaa_ BK434.out 3).trans rfl, (yaa_ BK434.out 4).trans rfl, (yaa_ BK435.out 0).trans rfl, (yaa_ BK435.out 1).trans rfl, (yaa_ BK435.out 2).trans rfl, (yaa_ BK435.out 3).trans rfl, (yaa_ BK435.out 4).trans rfl⟩ (fun hHeld => ?_)
 generalize w7.drew = w8 at BK434 BK435 HB hHeld ⊢
 refine take_ (i := 0) (N := some 5) (v := ?_) (a' := ?_) #[true, false, false, false, false, false] rfl rfl (by kernel_rfl) (fun _ _ _ h => h) (Or.inl ⟨by rfl, ?_⟩) hHeld ?_ ?_
 rotate_left
 ·rintro w' ⟨s0, s1, s2, s3, s4, s5, s6, s7, s8, s9⟩
  go_simp
  with_reducible rfl
 rotate_left
 ·simp only [Act.put, sA_, sZ_, sS_, i64_w, i32_w]
  rfl
 refine take_ (i := 2) (N := some 7) (v := ?_) (a' := ?_) #[true, false, true, false, false, false] rfl rfl (by kernel_rfl) (fun _ _ _ h => h) (Or.inl ⟨by rfl, ?_⟩) hHeld ?_ ?_
 rotate_left
 ·rintro w' ⟨s0, s1, s2, s3, s4, s5, s6, s7, s8, s9⟩
  go_simp
  with_reducible rfl
 rotate_left
 ·simp only [Act.put, sA_, sZ_, sS_, i64_w, i32_w]
  rfl
 refine one_ (i := 1) (N := some 6) #[true, true, true, false, false, false] rfl rfl (by kernel_rfl) (by decide) (fun K hK => ?_)
 refine goes_ Try.func65 (by kernel_rfl) rfl #[.agg #[.bool a0_0, .int .i64 a0_1, .slice A0_2 l0_2.length c0_2, .int .i64 a0_3, .slice A0_4 l0_4.length c0_4]] (by rfl) rfl rfl mq_ ?_
 with_reducible refine (soritesref14_Terms.calls a0_0 a0_1 (fun k_ => k_ < w.heap.size) _ _ l0_2 a0_3 (fun k_ => k_ < w.heap.size) _ _ l0_4 t436 _ ?side1 ?side2 A3.out).mono ?_
 (case side1 => exact Kd.V_mk HC0_2.out (Kd.F_below (Kd.C_F k24_heap HR0_2.out) (bq2_ HB GE434 GE435)))
 (case side2 => exact Kd.V_mk HC0_4.out (Kd.F_below (Kd.C_F k24_heap HR0_4.out) (bq2_ HB GE434 GE435)))
 rintro e w9 ⟨v437, rfl, ho0, hb⟩
 refine ⟨_, rfl, ?_⟩
 have HO438 := Az_.mk (Kd.N_lower (Kd.N_mono (ok' := fun k_ => k_ ≠ gb434 ∧ k_ ≠ gb435) ho0 (fun k_ hk_ => ⟨Or.elim hk_ (fun hs_ => Or.elim hs_ (fun hs_ => fun e_ => Nat.not_le.2 hs_ (by rw [e_]; exact GW434.out)) (fun hs_ => fun e_ => Nat.not_le.2 hs_ (by rw [e_]; exact GW434.out))) (fun hn_ => (Kd.freshB (g := gb434) (o := .cells #[.bool a0_0, .int .i64 a0_1, .slice A0_2 l0_2.length c0_2, .int .i64 a0_3, .slice A0_4 l0_4.length c0_4] 81 (0, 0)) (kq_ BK434) k_ hn_)), Or.elim hk_ (fun hs_ => Or.elim hs_ (fun hs_ => fun e_ => Nat.not_le.2 hs_ (by rw [e_]; exact GW435.out)) (fun hs_ => fun e_ => Nat.not_le.2 hs_ (by rw [e_]; exact GW435.out))) (fun hn_ => (Kd.freshB (g := gb435) (o := .cells #[.bool a1_0, .int .i64 a1_1, .slice A1_2 l1_2.length c1_2, .int .i64 a1_3, .slice A1_4 l1_4.length c1_4] 81 (0, 0)) (kq_ BK435) k_ hn_))⟩)) (bZ_ (bq2_ HB GE434 GE435)))
 replace BK434 := kb_ BK434 hb
 replace BK435 := kb_ BK435 hb
 replace HB := Az_.mk (bT_ (bq2_ HB GE434 GE435) hb)
 (try clear hb)
 (try clear hb2)
 (try clear hk)
 (try clear hi)
 (try clear ho0)
 refine hK.out _ _ ⟨(yaa_ BK434.out 0).trans rfl, (yaa_ BK434.out 1).trans rfl, (yaa_ BK434.out 2).trans rfl, (yaa_ BK434.out 3).trans rfl, (yaa_ BK434.out 4).trans rfl, (yaa_ BK435.out 0).trans rfl, (yaa_ BK435.out 1).trans rfl, (yaa_ BK435.out 2).trans rfl, (yaa_ BK435.out 3).trans rfl, (yaa_ BK435.out 4).trans rfl⟩ (fun hHeld => ?_)
 clear hK K
 refine norm_ (a' := ?_) ?_ ?_
 rotate_left
 ·show Act.put _ (some 6) _ = _
  simp only [Act.put, sA_, sZ_, sS_, i64_w, i32_w]
  rfl
 refine one_ (i := 3) (N := some 8) #[true, true, true, true, false, false] rfl rfl (by kernel_rfl) (by decide) (fun K hK => ?_)
 refine goes_ Try.func65 (by kernel_rfl) rfl #[.agg #[.bool a1_0, .int .i64 a1_1, .slice A1_2 l1_2.length c1_2, .int .i64 a1_3, .slice A1_4 l1_4.length c1_4]] (by rfl) rfl rfl mq_ ?_
 with_reducible refine (soritesref14_Terms.calls a1_0 a1_1 (fun k_ => k_ < w.heap.size) _ _ l1_2 a1_3 (fun k_ => k_ < w.heap.size) _ _ l1_4 t439 _ ?side1 ?side2 A4.out).mono ?_
 (case side1 => exact Kd.V_mk HC1_2.out (Kd.F_below (Kd.C_F k24_heap HR1_2.out) (bq2_ HB GE434 GE435)))
 (case side2 => exact Kd.V_mk HC1_4.out (Kd.F_below (Kd.C_F k24_heap HR1_4.out) (bq2_ HB GE434 GE435)))
 rintro e w10 ⟨v440, rfl, ho0, hb⟩
 refine ⟨_, rfl, ?_⟩
 have HO441 := Az_.mk (Kd.N_lower (Kd.N_mono (ok' := fun k_ => some k_ ≠ (v437 : Value).ownBlock ∧ k_ ≠ gb434 ∧ k_ ≠ gb435) ho0 (fun k_ hk_ => ⟨Or.elim hk_ (fun hs_ => Or.elim hs_ (fun hs_ => fun e_ => Nat.not_le.2 hs_ (Kd.N_base HO438.out k_ e_.symm)) (fun hs_ => fun e_ => Nat.not_le.2 hs_ (Kd.N_base HO438.out k_ e_.symm))) (fun hn_ => (Kd.fresh' (Kd.N_lt (nq_ HO438)) k_ hn_)), Or.elim hk_ (fun hs_ => Or.elim hs_ (fun hs_ => fun e_ => Nat.not_le.2 hs_ (by rw [e_]; exact GW434.out)) (fun hs_ => fun e_ => Nat.not_le.2 hs_ (by rw [e_]; exact GW434.out))) (fun hn_ => (Kd.freshB (g := gb434) (o := .cells #[.bool a0_0, .int .i64 a0_1, .slice A0_2 l0_2.length c0_2, .int .i64 a0_3, .slice A0_4 l0_4.length c0_4] 81 (0, 0)) (kq_ BK434) k_ hn_)), Or.elim hk_ (fun hs_ => Or.elim hs_ (fun hs_ => fun e_ => Nat.not_le.2 hs_ (by rw [e_]; exact GW435.out)) (fun hs_ => fun e_ => Nat.not_le.2 hs_ (by rw [e_]; exact GW435.out))) (fun hn_ => (Kd.freshB (g := gb435) (o := .cells #[.bool a1_0, .int .i64 a1_1, .slice A1_2 l1_2.length c1_2, .int .i64 a1_3, .slice A1_4 l1_4.length c1_4] 81 (0, 0)) (kq_ BK435) k_ hn_))⟩)) (bZ_ (bq2_ HB GE434 GE435)))
 replace HO438 := Az_.mk (Kd.N_elder' (nq_ HO438) (Kd.N_base ho0) hb)
 replace BK434 := kb_ BK434 hb
 replace BK435 := kb_ BK435 hb
 replace HB := Az_.mk (bT_ (bq2_ HB GE434 GE435) hb)
 (try clear hb)
 (try clear hb2)
 (try clear hk)
 (try clear hi)
 (try clear ho0)
 obtain ⟨Ao11, co11, eo11⟩ := Kd.N_slice HO438.out
 (first | subst eo11 | (injection eo11 with f1_ f2_ f3_; have f4_ := f1_.symm; have f5_ := f3_.symm; clear f1_ f2_ f3_; subst f4_; subst f5_))
 obtain ⟨Ao12, co12, eo12⟩ := Kd.N_slice HO441.out
 (first | subst eo12 | (injection eo12 with f1_ f2_ f3_; have f4_ := f1_.symm; have f5_ := f3_.symm; clear f1_ f2_ f3_; subst f4_; subst f5_))
 refine hK.out _ _ ⟨(yaa_ BK434.out 0).trans rfl, (yaa_ BK434.out 1).trans rfl, (yaa_ BK434.out 2).trans rfl, (yaa_ BK434.out 3).trans rfl, (yaa_ BK434.out 4).trans rfl, (yaa_ BK435.out 0).trans rfl, (yaa_ BK435.out 1).trans rfl, (yaa_ BK435.out 2).trans rfl, (yaa_ BK435.out 3).trans rfl, (yaa_ BK435.out 4).trans rfl⟩ (fun hHeld => ?_)
 clear hK K
 refine norm_ (a' := ?_) ?_ ?_
 rotate_left
 ·show Act.put _ (some 8) _ = _
  simp only [Act.put, sA_, sZ_, sS_, i64_w, i32_w]
  rfl
 refine one_ (i := 4) (N := some 9) #[true, true, true, true, true, false] rfl rfl (by kernel_rfl) (by decide) (fun K hK => ?_)
 refine goes_ Try.func70 (by kernel_rfl) rfl #[.slice Ao11 t436.length co11, .slice Ao12 t439.length co12] (by rfl) rfl rfl mq_ ?_
 with_reducible refine (soritesref14_Multi.calls k _ _ t436 _ _ t439 t442 _ ?side1 ?side2 ?side3 ?side4 A5.out).mono ?_
 (case side1 => repeat (first | exact (Kd.N_reads' HO438.out).2.2 | (with_reducible refine Kd.C_alloc ?_ _) | (with_reducible refine Kd.C_drewN ?_ _) | (with_reducible refine Kd.C_drew ?_)))
 (case side2 => exact (Kd.N_reads' HO438.out).2.1)
 (case side3 => repeat (first | exact (Kd.N_reads' HO441.out).2.2 | (with_reducible refine Kd.C_alloc ?_ _) | (with_reducible refine Kd.C_drewN ?_ _) | (with_reducible refine Kd.C_drew ?_)))
 (case side4 => exact (Kd.N_reads' HO441.out).2.1)
 rintro e w13 ⟨rfl, hb⟩
 refine ⟨_, rfl, ?_⟩
 replace HO438 := Az_.mk (Kd.N_below (nq_ HO438) hb)
 replace HO441 := Az_.mk (Kd.N_below (nq_ HO441) hb)
 replace BK434 := kb_ BK434 hb
 replace BK435 := kb_ BK435 hb
 replace HB := Az_.mk (bT_ (bq2_ HB GE434 GE435) hb)
 (try clear hb)
 (try clear hb2)
 (try clear hk)
 (try clear hi)
 refine hK.out _ _ ⟨(yaa_ BK434.out 0).trans rfl, (yaa_ BK434.out 1).trans rfl, (yaa_ BK434.out 2).trans rfl, (yaa_ BK434.out 3).trans rfl, (yaa_ BK434.out 4).trans rfl, (yaa_ BK435.out 0).trans rfl, (yaa_ BK435.out 1).trans rfl, (yaa_ BK435.out 2).trans rfl, (yaa_ BK435.out 3).trans rfl, (yaa_ BK435.out 4).trans rfl⟩ (fun hHeld => ?_)
 clear hK K
 refine norm_ (a' := ?_) ?_ ?_
 rotate_left
 ·show Act.put _ (some 9) _ = _
  simp only [Act.put, sA_, sZ_, sS_, i64_w, i32_w]
  rfl
 refine pure_ (i := 5) (N := some 4) (v := ?_) (a' := ?_) #[true, true, true, true, true, true] rfl rfl (by kernel_rfl) (fun _ _ _ h => h) (Or.inl ⟨by rfl, ?_⟩) ?_ ?_
 rotate_left
 ·intro w'
  go_simp
  with_reducible rfl
 rotate_left
 ·simp only [Act.put, sA_, sZ_, sS_, i64_w, i32_w]
  rfl
 refine done_ (by kernel_rfl) ?_
 try go_wp2
 go_ret
 exact ⟨by first | rfl | (simp [yad_, yac_] <;> rfl) | (simp [*, yad_, yac_] <;> rfl), bq2_ HB GE434 GE435⟩
end
section
attribute [local go_sem] max2_int min2_int max_two min_two yal_ yak_ max_four min_four
def order_Terms.f (a0_0 : Bool) (a0_1 : Int) (l0_2 : List (S30)) (a0_3 : Int) (l0_4 : List (S30)) : Option ((List (S30))) := if a0_0 = true then (some (([(⟨a0_1, l0_2⟩ : S30), (⟨a0_1, l0_2⟩ : S30), (⟨a0_3, l0_4⟩ : S30), (⟨a0_3, l0_4⟩ : S30)] : List (S30)))) else (some (([(⟨a0_1, l0_2⟩ : S30), (⟨a0_3, l0_4⟩ : S30)] : List (S30))))
set_option maxHeartbeats 8000000 in
set_option maxRecDepth 100000 in
theorem order_Terms.calls (a0_0 : Bool) (a0_1 : Int) (P0_2_ : Nat → Prop) (A0_2 : Option Addr) (c0_2 : Nat) (l0_2 : List (S30)) (a0_3 : Int) (P0_4_ : Nat → Prop) (A0_4 : Option Addr) (c0_4 : Nat) (l0_4 : List (S30)) (r : List (S30)) (w : World) (hs0_2 : Kd.V k30 30 w w.heap.size (fun k_ => P0_2_ k_) (.slice A0_2 l0_2.length c0_2) l0_2) (hs0_4 : Kd.V k30 30 w w.heap.size (fun k_ => P0_4_ k_) (.slice A0_4 l0_4.length c0_4) l0_4) (h : order_Terms.f a0_0 a0_1 l0_2 a0_3 l0_4 = some r) :
  Calls Try.prog 63 #[.agg #[.bool a0_0, .int .i64 a0_1, .slice A0_2 l0_2.length c0_2, .int .i64 a0_3, .slice A0_4 l0_4.length c0_4]] w fun e w' => ∃ v0_ : Value, e = .returned (v0_) ∧ Kd.N k30 30 w' w.heap.size (fun k_ => ((P0_2_ k_ ∨ P0_4_ k_) ∨ w.heap.size ≤ k_)) v0_ r ∧ Below w.heap.size w w' := by
 have hu78 := Try.underlying78
 have hu30 := Try.underlying30
 have HO0_2 := Az_.mk (show Kd.V k30 30 w w.heap.size (fun k_ => ((P0_2_ k_ ∨ P0_4_ k_) ∨ w.heap.size ≤ k_)) (.slice A0_2 l0_2.length c0_2) l0_2 from Kd.V_mono hs0_2 (fun k_ hk => .inl (.inl hk)))
 have HO0_4 := Az_.mk (show Kd.V k30 30 w w.heap.size (fun k_ => ((P0_2_ k_ ∨ P0_4_ k_) ∨ w.heap.size ≤ k_)) (.slice A0_4 l0_4.length c0_4) l0_4 from Kd.V_mono hs0_4 (fun k_ hk => .inl (.inr hk)))
 have HB := Az_.mk (Below.refl w.heap.size w)
 have H : (if a0_0 = true then (some (([(⟨a0_1, l0_2⟩ : S30), (⟨a0_1, l0_2⟩ : S30), (⟨a0_3, l0_4⟩ : S30), (⟨a0_3, l0_4⟩ : S30)] : List (S30)))) else (some (([(⟨a0_1, l0_2⟩ : S30), (⟨a0_3, l0_4⟩ : S30)] : List (S30))))) = some r := h
 clear h
 by_cases c2 : a0_0 = true
 ·subst c2
  have H1 : (some (([(⟨a0_1, l0_2⟩ : S30), (⟨a0_1, l0_2⟩ : S30), (⟨a0_3, l0_4⟩ : S30), (⟨a0_3, l0_4⟩ : S30)] : List (S30)))) = some r := by rw [if_pos rfl] at H; exact H
  clear H
  have H := H1
  clear H1
  obtain ⟨y485, hy485⟩ : ∃ y_ : List (S30), y_ = (([(⟨a0_1, l0_2⟩ : S30), (⟨a0_1, l0_2⟩ : S30), (⟨a0_3, l0_4⟩ : S30), (⟨a0_3, l0_4⟩ : S30)] : List (S30))) := ⟨_, rfl⟩
  replace H : (some y485) = some r := by first | (rw [hy485]; with_reducible exact H) | (have H2_ := (Option.bind_some _ _).symm.trans H; rw [hy485]; with_reducible exact H2_) | (have H2_ := (Option.bind_some _ _).symm.trans H; with_reducible exact H2_) | with_reducible exact H | (rw [hy485]; exact H) | exact H
  have Ny485 := Az_.mk hy485
  clear hy485
  obtain rfl := Option.some.inj H
  go_enter Try.func63, Try.ntmps63
  go_wp2_with (first | ((with_reducible refine yag_ (N := 1) rfl ?_); refine yah_ ?hg (N := 1) ?hd (cs := #[.bool true, .int .i64 a0_1, .slice A0_2 l0_2.length c0_2, .int .i64 a0_3, .slice A0_4 l0_4.length c0_4]) (t := 78) ?hr ?_; (case hd => rfl); (case hg => rfl); (case hr => exact rq_); intro gb484 hg w3 hbox hb; replace HO0_2 := Az_.mk (Kd.V_below (Kd.V_elderB (vq_ HO0_2) gb484 (Nat.le_of_eq hg.symm)) hb); replace HO0_4 := Az_.mk (Kd.V_below (Kd.V_elderB (vq_ HO0_4) gb484 (Nat.le_of_eq hg.symm)) hb); have BK484 := Az_.mk (hbox); have GW484 := Az_.mk ((by rw [hg]; exact (bZ_ (bq_ HB)) : w.heap.size ≤ gb484)); have GE484 := Az_.mk ((by rw [hg]; exact (bZ_ (bq_ HB)) : w.heap.size ≤ gb484)); replace HB := Az_.mk (bT_ (bq_ HB) hb); clear hb hbox hg; obtain ⟨hcz4_0, hcz4_1, hcz4_2, hcz4_3, hcz4_4, hfz4_0, hfz4_1, hfz4_2, hfz4_3, hfz4_4⟩ := cz5_ BK484) | ((with_reducible refine yag_ (N := 13) rfl ?_); refine Kd.N_lit k30 _ 30 ?hg (N' := 13) ?hd (xs := ([(⟨a0_1, l0_2⟩ : S30), (⟨a0_1, l0_2⟩ : S30), (⟨a0_3, l0_4⟩ : S30), (⟨a0_3, l0_4⟩ : S30)] : List (S30))) (inner := [.int .i64 a0_1, .slice A0_2 l0_2.length c0_2, .int .i64 a0_1, .slice A0_2 l0_2.length c0_2, .int .i64 a0_3, .slice A0_4 l0_4.length c0_4, .int .i64 a0_3, .slice A0_4 l0_4.length c0_4]) (ok := (fun k_ => ((P0_2_ k_ ∨ P0_4_ k_) ∨ w.heap.size ≤ k_) ∧ k_ ≠ gb484)) (okp := (fun k_ => ((P0_2_ k_ ∨ P0_4_ k_) ∨ w.heap.size ≤ k_) ∧ k_ ≠ gb484)) ?hr ?hp (fun _ hk => hk) ((show ∀ k_, w3.heap.size ≤ k_ → (fun k_ => ((P0_2_ k_ ∨ P0_4_ k_) ∨ w.heap.size ≤ k_) ∧ k_ ≠ gb484) k_ from fun k_ hk => ⟨(.inr (Nat.le_trans (bZ_ (bq1_ HB GE484)) hk)), Kd.freshB (g := gb484) (o := .cells #[.bool true, .int .i64 a0_1, .slice A0_2 l0_2.length c0_2, .int .i64 a0_3, .slice A0_4 l0_4.length c0_4] 78 (0, 0)) (kq_ BK484) k_ hk⟩) _ (Nat.le_refl _)) (Below.refl _ _) (Nat.le_refl _) (by simp) ?_; (case hd => rfl); (case hg => rfl); (case hr => exact rq_); (case hp => exact (Reps.c2 (show Kd.FK k30 _ _ (⟨a0_1, l0_2⟩ : S30) [.int .i64 a0_1, .slice A0_2 l0_2.length c0_2] from (k30_mkF _ _ (⟨a0_1, l0_2⟩ : S30) (Kd.V_reads' (Kd.V_mono (ok' := (fun k_ => ((P0_2_ k_ ∨ P0_4_ k_) ∨ w.heap.size ≤ k_) ∧ k_ ≠ gb484)) (HO0_2.out) (fun k_ hk => ⟨hk.1, hk.2⟩))).2.1 (Kd.V_F (Kd.V_mono (ok' := (fun k_ => ((P0_2_ k_ ∨ P0_4_ k_) ∨ w.heap.size ≤ k_) ∧ k_ ≠ gb484)) (HO0_2.out) (fun k_ hk => ⟨hk.1, hk.2⟩))))) (Reps.c2 (show Kd.FK k30 _ _ (⟨a0_1, l0_2⟩ : S30) [.int .i64 a0_1, .slice A0_2 l0_2.length c0_2] from (k30_mkF _ _ (⟨a0_1, l0_2⟩ : S30) (Kd.V_reads' (Kd.V_mono (ok' := (fun k_ => ((P0_2_ k_ ∨ P0_4_ k_) ∨ w.heap.size ≤ k_) ∧ k_ ≠ gb484)) (HO0_2.out) (fun k_ hk => ⟨hk.1, hk.2⟩))).2.1 (Kd.V_F (Kd.V_mono (ok' := (fun k_ => ((P0_2_ k_ ∨ P0_4_ k_) ∨ w.heap.size ≤ k_) ∧ k_ ≠ gb484)) (HO0_2.out) (fun k_ hk => ⟨hk.1, hk.2⟩))))) (Reps.c2 (show Kd.FK k30 _ _ (⟨a0_3, l0_4⟩ : S30) [.int .i64 a0_3, .slice A0_4 l0_4.length c0_4] from (k30_mkF _ _ (⟨a0_3, l0_4⟩ : S30) (Kd.V_reads' (Kd.V_mono (ok' := (fun k_ => ((P0_2_ k_ ∨ P0_4_ k_) ∨ w.heap.size ≤ k_) ∧ k_ ≠ gb484)) (HO0_4.out) (fun k_ hk => ⟨hk.1, hk.2⟩))).2.1 (Kd.V_F (Kd.V_mono (ok' := (fun k_ => ((P0_2_ k_ ∨ P0_4_ k_) ∨ w.heap.size ≤ k_) ∧ k_ ≠ gb484)) (HO0_4.out) (fun k_ hk => ⟨hk.1, hk.2⟩))))) (Reps.c2 (show Kd.FK k30 _ _ (⟨a0_3, l0_4⟩ : S30) [.int .i64 a0_3, .slice A0_4 l0_4.length c0_4] from (k30_mkF _ _ (⟨a0_3, l0_4⟩ : S30) (Kd.V_reads' (Kd.V_mono (ok' := (fun k_ => ((P0_2_ k_ ∨ P0_4_ k_) ∨ w.heap.size ≤ k_) ∧ k_ ≠ gb484)) (HO0_4.out) (fun k_ hk => ⟨hk.1, hk.2⟩))).2.1 (Kd.V_F (Kd.V_mono (ok' := (fun k_ => ((P0_2_ k_ ∨ P0_4_ k_) ∨ w.heap.size ≤ k_) ∧ k_ ≠ gb484)) (HO0_4.out) (fun k_ hk => ⟨hk.1, hk.2⟩))))) (Reps.none _ _)))))); intro v486 w5 ho6 hb hg_ hnew_; clear hg_ hnew_; (first | rw [← Ny485.out] at ho6 | (simp only [Int.reduceToNat] at ho6; rw [← Ny485.out] at ho6)); replace HO0_2 := Az_.mk (Kd.V_elder' (vq_ HO0_2) (Kd.N_base ho6) hb); replace HO0_4 := Az_.mk (Kd.V_elder' (vq_ HO0_4) (Kd.N_base ho6) hb); have HO487 := Az_.mk (Kd.N_lower ho6 (bZ_ (bq1_ HB GE484))); replace BK484 := kb_ BK484 hb; replace HB := Az_.mk (bT_ (bq1_ HB GE484) hb); clear hb ho6))
  go_ret
  exact ⟨_, by first | rfl | (simp [yad_, yac_] <;> rfl) | (simp [*, yad_, yac_] <;> rfl), by (with_reducible repeat (first | apply Kd.N_alloc | apply Kd.N_drewN | apply Kd.N_drew)); exact Kd.N_mono HO487.out (fun _ hk => hk.1), bq1_ HB GE484⟩
 ·replace c2 := Bool.eq_false_iff.mpr c2
  subst c2
  have H1 : (some (([(⟨a0_1, l0_2⟩ : S30), (⟨a0_3, l0_4⟩ : S30)] : List (S30)))) = some r := by rw [if_neg (show ¬ (false = true) by decide)] at H; exact H
  clear H
  have H := H1
  clear H1
  obtain ⟨y488, hy488⟩ : ∃ y_ : List (S30), y_ = (([(⟨a0_1, l0_2⟩ : S30), (⟨a0_3, l0_4⟩ : S30)] : List (S30))) := ⟨_, rfl⟩
  replace H : (some y488) = some r := by first | (rw [hy488]; with_reducible exact H) | (have H2_ := (Option.bind_some _ _).symm.trans H; rw [hy488]; with_reducible exact H2_) | (have H2_ := (Option.bind_some _ _).symm.trans H; with_reducible exact H2_) | with_reducible exact H | (rw [hy488]; exact H) | exact H
  have Ny488 := Az_.mk hy488
  clear hy488
  obtain rfl := Option.some.inj H
  go_enter Try.func63, Try.ntmps63
  go_wp2_with (first | ((with_reducible refine yag_ (N := 1) rfl ?_); refine yah_ ?hg (N := 1) ?hd (cs := #[.bool false, .int .i64 a0_1, .slice A0_2 l0_2.length c0_2, .int .i64 a0_3, .slice A0_4 l0_4.length c0_4]) (t := 78) ?hr ?_; (case hd => rfl); (case hg => rfl); (case hr => exact rq_); intro gb484 hg w7 hbox hb; replace HO0_2 := Az_.mk (Kd.V_below (Kd.V_elderB (vq_ HO0_2) gb484 (Nat.le_of_eq hg.symm)) hb); replace HO0_4 := Az_.mk (Kd.V_below (Kd.V_elderB (vq_ HO0_4) gb484 (Nat.le_of_eq hg.symm)) hb); have BK484 := Az_.mk (hbox); have GW484 := Az_.mk ((by rw [hg]; exact (bZ_ (bq_ HB)) : w.heap.size ≤ gb484)); have GE484 := Az_.mk ((by rw [hg]; exact (bZ_ (bq_ HB)) : w.heap.size ≤ gb484)); replace HB := Az_.mk (bT_ (bq_ HB) hb); clear hb hbox hg; obtain ⟨hcz8_0, hcz8_1, hcz8_2, hcz8_3, hcz8_4, hfz8_0, hfz8_1, hfz8_2, hfz8_3, hfz8_4⟩ := cz5_ BK484) | ((with_reducible refine yag_ (N := 18) rfl ?_); refine Kd.N_lit k30 _ 30 ?hg (N' := 18) ?hd (xs := ([(⟨a0_1, l0_2⟩ : S30), (⟨a0_3, l0_4⟩ : S30)] : List (S30))) (inner := [.int .i64 a0_1, .slice A0_2 l0_2.length c0_2, .int .i64 a0_3, .slice A0_4 l0_4.length c0_4]) (ok := (fun k_ => ((P0_2_ k_ ∨ P0_4_ k_) ∨ w.heap.size ≤ k_) ∧ k_ ≠ gb484)) (okp := (fun k_ => ((P0_2_ k_ ∨ P0_4_ k_) ∨ w.heap.size ≤ k_) ∧ k_ ≠ gb484)) ?hr ?hp (fun _ hk => hk) ((show ∀ k_, w7.heap.size ≤ k_ → (fun k_ => ((P0_2_ k_ ∨ P0_4_ k_) ∨ w.heap.size ≤ k_) ∧ k_ ≠ gb484) k_ from fun k_ hk => ⟨(.inr (Nat.le_trans (bZ_ (bq1_ HB GE484)) hk)), Kd.freshB (g := gb484) (o := .cells #[.bool false, .int .i64 a0_1, .slice A0_2 l0_2.length c0_2, .int .i64 a0_3, .slice A0_4 l0_4.length c0_4] 78 (0, 0)) (kq_ BK484) k_ hk⟩) _ (Nat.le_refl _)) (Below.refl _ _) (Nat.le_refl _) (by simp) ?_; (case hd => rfl); (case hg => rfl); (case hr => exact rq_); (case hp => exact (Reps.c2 (show Kd.FK k30 _ _ (⟨a0_1, l0_2⟩ : S30) [.int .i64 a0_1, .slice A0_2 l0_2.length c0_2] from (k30_mkF _ _ (⟨a0_1, l0_2⟩ : S30) (Kd.V_reads' (Kd.V_mono (ok' := (fun k_ => ((P0_2_ k_ ∨ P0_4_ k_) ∨ w.heap.size ≤ k_) ∧ k_ ≠ gb484)) (HO0_2.out) (fun k_ hk => ⟨hk.1, hk.2⟩))).2.1 (Kd.V_F (Kd.V_mono (ok' := (fun k_ => ((P0_2_ k_ ∨ P0_4_ k_) ∨ w.heap.size ≤ k_) ∧ k_ ≠ gb484)) (HO0_2.out) (fun k_ hk => ⟨hk.1, hk.2⟩))))) (Reps.c2 (show Kd.FK k30 _ _ (⟨a0_3, l0_4⟩ : S30) [.int .i64 a0_3, .slice A0_4 l0_4.length c0_4] from (k30_mkF _ _ (⟨a0_3, l0_4⟩ : S30) (Kd.V_reads' (Kd.V_mono (ok' := (fun k_ => ((P0_2_ k_ ∨ P0_4_ k_) ∨ w.heap.size ≤ k_) ∧ k_ ≠ gb484)) (HO0_4.out) (fun k_ hk => ⟨hk.1, hk.2⟩))).2.1 (Kd.V_F (Kd.V_mono (ok' := (fun k_ => ((P0_2_ k_ ∨ P0_4_ k_) ∨ w.heap.size ≤ k_) ∧ k_ ≠ gb484)) (HO0_4.out) (fun k_ hk => ⟨hk.1, hk.2⟩))))) (Reps.none _ _)))); intro v489 w9 ho10 hb hg_ hnew_; clear hg_ hnew_; (first | rw [← Ny488.out] at ho10 | (simp only [Int.reduceToNat] at ho10; rw [← Ny488.out] at ho10)); replace HO0_2 := Az_.mk (Kd.V_elder' (vq_ HO0_2) (Kd.N_base ho10) hb); replace HO0_4 := Az_.mk (Kd.V_elder' (vq_ HO0_4) (Kd.N_base ho10) hb); have HO490 := Az_.mk (Kd.N_lower ho10 (bZ_ (bq1_ HB GE484))); replace BK484 := kb_ BK484 hb; replace HB := Az_.mk (bT_ (bq1_ HB GE484) hb); clear hb ho10))
  go_ret
  exact ⟨_, by first | rfl | (simp [yad_, yac_] <;> rfl) | (simp [*, yad_, yac_] <;> rfl), by (with_reducible repeat (first | apply Kd.N_alloc | apply Kd.N_drewN | apply Kd.N_drew)); exact Kd.N_mono HO490.out (fun _ hk => hk.1), bq1_ HB GE484⟩
end
section
attribute [local go_sem] max2_int min2_int max_two min_two yal_ yak_ max_four min_four
def order_Greater.f (a0_0 : Bool) (a0_1 : Int) (l0_2 : List (S30)) (a0_3 : Int) (l0_4 : List (S30)) (a1_0 : Bool) (a1_1 : Int) (l1_2 : List (S30)) (a1_3 : Int) (l1_4 : List (S30)) : Option (Bool) := (order_Terms.f a0_0 a0_1 l0_2 a0_3 l0_4).bind fun t502 => ((order_Terms.f a1_0 a1_1 l1_2 a1_3 l1_4).bind fun t505 => ((order_Multi.f t502 t505).bind fun t508 => (some t508)))
set_option maxHeartbeats 8000000 in
set_option maxRecDepth 100000 in
theorem order_Greater.calls (a0_0 : Bool) (a0_1 : Int) (A0_2 : Option Addr) (c0_2 : Nat) (l0_2 : List (S30)) (a0_3 : Int) (A0_4 : Option Addr) (c0_4 : Nat) (l0_4 : List (S30)) (a1_0 : Bool) (a1_1 : Int) (A1_2 : Option Addr) (c1_2 : Nat) (l1_2 : List (S30)) (a1_3 : Int) (A1_4 : Option Addr) (c1_4 : Nat) (l1_4 : List (S30)) (r : Bool) (w : World) (hr0_2 : Kd.C k30 w A0_2 l0_2.length l0_2) (hc0_2 : l0_2.length ≤ c0_2) (hr0_4 : Kd.C k30 w A0_4 l0_4.length l0_4) (hc0_4 : l0_4.length ≤ c0_4) (hr1_2 : Kd.C k30 w A1_2 l1_2.length l1_2) (hc1_2 : l1_2.length ≤ c1_2) (hr1_4 : Kd.C k30 w A1_4 l1_4.length l1_4) (hc1_4 : l1_4.length ≤ c1_4) (h : order_Greater.f a0_0 a0_1 l0_2 a0_3 l0_4 a1_0 a1_1 l1_2 a1_3 l1_4 = some r) :
  Calls Try.prog 66 #[.agg #[.bool a0_0, .int .i64 a0_1, .slice A0_2 l0_2.length c0_2, .int .i64 a0_3, .slice A0_4 l0_4.length c0_4], .agg #[.bool a1_0, .int .i64 a1_1, .slice A1_2 l1_2.length c1_2, .int .i64 a1_3, .slice A1_4 l1_4.length c1_4]] w fun e w' => e = .returned (.bool r) ∧ Below w.heap.size w w' := by
 have hu78 := Try.underlying78
 have HR0_2 := Az_.mk hr0_2
 have HC0_2 := Az_.mk hc0_2
 clear hr0_2 hc0_2
 have HR0_4 := Az_.mk hr0_4
 have HC0_4 := Az_.mk hc0_4
 clear hr0_4 hc0_4
 have HR1_2 := Az_.mk hr1_2
 have HC1_2 := Az_.mk hc1_2
 clear hr1_2 hc1_2
 have HR1_4 := Az_.mk hr1_4
 have HC1_4 := Az_.mk hc1_4
 clear hr1_4 hc1_4
 have HB := Az_.mk (Below.refl w.heap.size w)
 have H : ((order_Terms.f a0_0 a0_1 l0_2 a0_3 l0_4).bind fun t502 => ((order_Terms.f a1_0 a1_1 l1_2 a1_3 l1_4).bind fun t505 => ((order_Multi.f t502 t505).bind fun t508 => (some t508)))) = some r := h
 clear h
 replace H := Option.bind_eq_some_iff.mp H
 obtain ⟨t502, A30, H⟩ := H
 replace H : ((order_Terms.f a1_0 a1_1 l1_2 a1_3 l1_4).bind fun t505 => ((order_Multi.f t502 t505).bind fun t508 => (some t508))) = some r := H
 have A3 := Az_.mk A30
 clear A30
 replace H := Option.bind_eq_some_iff.mp H
 obtain ⟨t505, A40, H⟩ := H
 replace H : ((order_Multi.f t502 t505).bind fun t508 => (some t508)) = some r := H
 have A4 := Az_.mk A40
 clear A40
 replace H := Option.bind_eq_some_iff.mp H
 obtain ⟨t508, A50, H⟩ := H
 replace H : (some t508) = some r := H
 have A5 := Az_.mk A50
 clear A50
 obtain rfl := Option.some.inj H
 go_enter Try.func66, Try.ntmps66
 try go_wp2_with (first | ((with_reducible refine yag_ (N := 2) rfl ?_); refine yah_ ?hg (N := 2) ?hd (cs := #[.bool a0_0, .int .i64 a0_1, .slice A0_2 l0_2.length c0_2, .int .i64 a0_3, .slice A0_4 l0_4.length c0_4]) (t := 78) ?hr ?_; (case hd => rfl); (case hg => rfl); (case hr => exact rq_); intro gb500 hg w6 hbox hb; have BK500 := Az_.mk (hbox); have GW500 := Az_.mk ((by rw [hg]; exact (bZ_ (bq_ HB)) : w.heap.size ≤ gb500)); have GE500 := Az_.mk ((by rw [hg]; exact (bZ_ (bq_ HB)) : w.heap.size ≤ gb500)); replace HB := Az_.mk (bT_ (bq_ HB) hb); clear hb hbox hg) | ((with_reducible refine yag_ (N := 3) rfl ?_); refine yah_ ?hg (N := 3) ?hd (cs := #[.bool a1_0, .int .i64 a1_1, .slice A1_2 l1_2.length c1_2, .int .i64 a1_3, .slice A1_4 l1_4.length c1_4]) (t := 78) ?hr ?_; (case hd => rfl); (case hg => rfl); (case hr => exact rq_); intro gb501 hg w7 hbox hb; have BK501 := Az_.mk (hbox); have GW501 := Az_.mk ((by rw [hg]; exact (bZ_ (bq1_ HB GE500)) : w.heap.size ≤ gb501)); have GE501 := Az_.mk ((by rw [hg]; exact (bZ_ (bq1_ HB GE500)) : w.heap.size ≤ gb501)); replace HB := Az_.mk (bT_ (bq1_ HB GE500) hb); have NB500_501 := Az_.mk ((by rw [hg]; exact Nat.ne_of_lt (blk_lt (g := gb500) (o := .cells #[.bool a0_0, .int .i64 a0_1, .slice A0_2 l0_2.length c0_2, .int .i64 a0_3, .slice A0_4 l0_4.length c0_4] 78 (0, 0)) (kq_ BK500)) : gb500 ≠ gb501)); have NB501_500 := Az_.mk ((by rw [hg]; exact Nat.ne_of_gt (blk_lt (g := gb500) (o := .cells #[.bool a0_0, .int .i64 a0_1, .slice A0_2 l0_2.length c0_2, .int .i64 a0_3, .slice A0_4 l0_4.length c0_4] 78 (0, 0)) (kq_ BK500)) : gb501 ≠ gb500)); replace BK500 := kb_ BK500 hb; clear hb hbox hg))
 replace BK500 := Az_.mk (kD_ BK500.out)
 replace BK501 := Az_.mk (kD_ BK501.out)
 replace HB := Az_.mk (bD_ HB.out)
 refine start_ (n := 6) (S := fun w' => w'.cell? ⟨gb500, 0, none⟩ = some (.bool a0_0) ∧ w'.cell? ⟨gb500, 1, none⟩ = some (.int .i64 a0_1) ∧ w'.cell? ⟨gb500, 2, none⟩ = some (.slice A0_2 l0_2.length c0_2) ∧ w'.cell? ⟨gb500, 3, none⟩ = some (.int .i64 a0_3) ∧ w'.cell? ⟨gb500, 4, none⟩ = some (.slice A0_4 l0_4.length c0_4) ∧ w'.cell? ⟨gb501, 0, none⟩ = some (.bool a1_0) ∧ w'.cell? ⟨gb501, 1, none⟩ = some (.int .i64 a1_1) ∧ w'.cell? ⟨gb501, 2, none⟩ = some (.slice A1_2 l1_2.length c1_2) ∧ w'.cell? ⟨gb501, 3, none⟩ = some (.int .i64 a1_3) ∧ w'.cell? ⟨gb501, 4, none⟩ = some (.slice A1_4 l1_4.length c1_4)) (ds := []) #[false, false, false, false, false, false] (by kernel_rfl) rfl rfl ⟨(yaa_ BK500.out 0).trans rfl, (yaa_ BK500.out 1).trans rfl, (yaa_ BK500.out 2).trans rfl, (yaa_ BK500.out 3).trans rfl, (yaa_ BK500.out 4).trans rfl, (yaa_ BK501.out 0).trans rfl, (yaa_ BK501.out 1).trans rfl, (yaa_ BK501.out 2).trans rfl, (yaa_ BK501.out 3).trans rfl, (yaa_ BK501.out 4).trans rfl⟩ (fun hHeld => ?_)
 generalize w7.drew = w8 at BK500 BK501 HB hHeld ⊢
 refine take_ (i := 0) (N := some 5) (v := ?_) (a' := ?_) #[true, false, false, false, false, false] rfl rfl (by kernel_rfl) (fun _ _ _ h => h) (Or.inl ⟨by rfl, ?_⟩) hHeld ?_ ?_
 rotate_left
 ·rintro w' ⟨s0, s1, s2, s3, s4, s5, s6, s7, s8, s9⟩
  go_simp
  with_reducible rfl
 rotate_left
 ·simp only [Act.put, sA_, sZ_, sS_, i64_w, i32_w]
  rfl
 refine take_ (i := 2) (N := some 7) (v := ?_) (a' := ?_) #[true, false, true, false, false, false] rfl rfl (by kernel_rfl) (fun _ _ _ h => h) (Or.inl ⟨by rfl, ?_⟩) hHeld ?_ ?_
 rotate_left
 ·rintro w' ⟨s0, s1, s2, s3, s4, s5, s6, s7, s8, s9⟩
  go_simp
  with_reducible rfl
 rotate_left
 ·simp only [Act.put, sA_, sZ_, sS_, i64_w, i32_w]
  rfl
 refine one_ (i := 1) (N := some 6) #[true, true, true, false, false, false] rfl rfl (by kernel_rfl) (by decide) (fun K hK => ?_)
 refine goes_ Try.func63 (by kernel_rfl) rfl #[.agg #[.bool a0_0, .int .i64 a0_1, .slice A0_2 l0_2.length c0_2, .int .i64 a0_3, .slice A0_4 l0_4.length c0_4]] (by rfl) rfl rfl mq_ ?_
 with_reducible refine (order_Terms.calls a0_0 a0_1 (fun k_ => k_ < w.heap.size) _ _ l0_2 a0_3 (fun k_ => k_ < w.heap.size) _ _ l0_4 t502 _ ?side1 ?side2 A3.out).mono ?_
 (case side1 => exact Kd.V_mk HC0_2.out (Kd.F_below (Kd.C_F k30_heap HR0_2.out) (bq2_ HB GE500 GE501)))
 (case side2 => exact Kd.V_mk HC0_4.out (Kd.F_below (Kd.C_F k30_heap HR0_4.out) (bq2_ HB GE500 GE501)))
 rintro e w9 ⟨v503, rfl, ho0, hb⟩
 refine ⟨_, rfl, ?_⟩
 have HO504 := Az_.mk (Kd.N_lower (Kd.N_mono (ok' := fun k_ => k_ ≠ gb500 ∧ k_ ≠ gb501) ho0 (fun k_ hk_ => ⟨Or.elim hk_ (fun hs_ => Or.elim hs_ (fun hs_ => fun e_ => Nat.not_le.2 hs_ (by rw [e_]; exact GW500.out)) (fun hs_ => fun e_ => Nat.not_le.2 hs_ (by rw [e_]; exact GW500.out))) (fun hn_ => (Kd.freshB (g := gb500) (o := .cells #[.bool a0_0, .int .i64 a0_1, .slice A0_2 l0_2.length c0_2, .int .i64 a0_3, .slice A0_4 l0_4.length c0_4] 78 (0, 0)) (kq_ BK500) k_ hn_)), Or.elim hk_ (fun hs_ => Or.elim hs_ (fun hs_ => fun e_ => Nat.not_le.2 hs_ (by rw [e_]; exact GW501.out)) (fun hs_ => fun e_ => Nat.not_le.2 hs_ (by rw [e_]; exact GW501.out))) (fun hn_ => (Kd.freshB (g := gb501) (o := .cells #[.bool a1_0, .int .i64 a1_1, .slice A1_2 l1_2.length c1_2, .int .i64 a1_3, .slice A1_4 l1_4.length c1_4] 78 (0, 0)) (kq_ BK501) k_ hn_))⟩)) (bZ_ (bq2_ HB GE500 GE501)))
 replace BK500 := kb_ BK500 hb
 replace BK501 := kb_ BK501 hb
 replace HB := Az_.mk (bT_ (bq2_ HB GE500 GE501) hb)
 (try clear hb)
 (try clear hb2)
 (try clear hk)
 (try clear hi)
 (try clear ho0)
 refine hK.out _ _ ⟨(yaa_ BK500.out 0).trans rfl, (yaa_ BK500.out 1).trans rfl, (yaa_ BK500.out 2).trans rfl, (yaa_ BK500.out 3).trans rfl, (yaa_ BK500.out 4).trans rfl, (yaa_ BK501.out 0).trans rfl, (yaa_ BK501.out 1).trans rfl, (yaa_ BK501.out 2).trans rfl, (yaa_ BK501.out 3).trans rfl, (yaa_ BK501.out 4).trans rfl⟩ (fun hHeld => ?_)
 clear hK K
 refine norm_ (a' := ?_) ?_ ?_
 rotate_left
 ·show Act.put _ (some 6) _ = _
  simp only [Act.put, sA_, sZ_, sS_, i64_w, i32_w]
  rfl
 refine one_ (i := 3) (N := some 8) #[true, true, true, true, false, false] rfl rfl (by kernel_rfl) (by decide) (fun K hK => ?_)
 refine goes_ Try.func63 (by kernel_rfl) rfl #[.agg #[.bool a1_0, .int .i64 a1_1, .slice A1_2 l1_2.length c1_2, .int .i64 a1_3, .slice A1_4 l1_4.length c1_4]] (by rfl) rfl rfl mq_ ?_
 with_reducible refine (order_Terms.calls a1_0 a1_1 (fun k_ => k_ < w.heap.size) _ _ l1_2 a1_3 (fun k_ => k_ < w.heap.size) _ _ l1_4 t505 _ ?side1 ?side2 A4.out).mono ?_
 (case side1 => exact Kd.V_mk HC1_2.out (Kd.F_below (Kd.C_F k30_heap HR1_2.out) (bq2_ HB GE500 GE501)))
 (case side2 => exact Kd.V_mk HC1_4.out (Kd.F_below (Kd.C_F k30_heap HR1_4.out) (bq2_ HB GE500 GE501)))
 rintro e w10 ⟨v506, rfl, ho0, hb⟩
 refine ⟨_, rfl, ?_⟩
 have HO507 := Az_.mk (Kd.N_lower (Kd.N_mono (ok' := fun k_ => some k_ ≠ (v503 : Value).ownBlock ∧ k_ ≠ gb500 ∧ k_ ≠ gb501) ho0 (fun k_ hk_ => ⟨Or.elim hk_ (fun hs_ => Or.elim hs_ (fun hs_ => fun e_ => Nat.not_le.2 hs_ (Kd.N_base HO504.out k_ e_.symm)) (fun hs_ => fun e_ => Nat.not_le.2 hs_ (Kd.N_base HO504.out k_ e_.symm))) (fun hn_ => (Kd.fresh' (Kd.N_lt (nq_ HO504)) k_ hn_)), Or.elim hk_ (fun hs_ => Or.elim hs_ (fun hs_ => fun e_ => Nat.not_le.2 hs_ (by rw [e_]; exact GW500.out)) (fun hs_ => fun e_ => Nat.not_le.2 hs_ (by rw [e_]; exact GW500.out))) (fun hn_ => (Kd.freshB (g := gb500) (o := .cells #[.bool a0_0, .int .i64 a0_1, .slice A0_2 l0_2.length c0_2, .int .i64 a0_3, .slice A0_4 l0_4.length c0_4] 78 (0, 0)) (kq_ BK500) k_ hn_)), Or.elim hk_ (fun hs_ => Or.elim hs_ (fun hs_ => fun e_ => Nat.not_le.2 hs_ (by rw [e_]; exact GW501.out)) (fun hs_ => fun e_ => Nat.not_le.2 hs_ (by rw [e_]; exact GW501.out))) (fun hn_ => (Kd.freshB (g := gb501) (o := .cells #[.bool a1_0, .int .i64 a1_1, .slice A1_2 l1_2.length c1_2, .int .i64 a1_3, .slice A1_4 l1_4.length c1_4] 78 (0, 0)) (kq_ BK501) k_ hn_))⟩)) (bZ_ (bq2_ HB GE500 GE501)))
 replace HO504 := Az_.mk (Kd.N_elder' (nq_ HO504) (Kd.N_base ho0) hb)
 replace BK500 := kb_ BK500 hb
 replace BK501 := kb_ BK501 hb
 replace HB := Az_.mk (bT_ (bq2_ HB GE500 GE501) hb)
 (try clear hb)
 (try clear hb2)
 (try clear hk)
 (try clear hi)
 (try clear ho0)
 obtain ⟨Ao11, co11, eo11⟩ := Kd.N_slice HO504.out
 (first | subst eo11 | (injection eo11 with f1_ f2_ f3_; have f4_ := f1_.symm; have f5_ := f3_.symm; clear f1_ f2_ f3_; subst f4_; subst f5_))
 obtain ⟨Ao12, co12, eo12⟩ := Kd.N_slice HO507.out
 (first | subst eo12 | (injection eo12 with f1_ f2_ f3_; have f4_ := f1_.symm; have f5_ := f3_.symm; clear f1_ f2_ f3_; subst f4_; subst f5_))
 refine hK.out _ _ ⟨(yaa_ BK500.out 0).trans rfl, (yaa_ BK500.out 1).trans rfl, (yaa_ BK500.out 2).trans rfl, (yaa_ BK500.out 3).trans rfl, (yaa_ BK500.out 4).trans rfl, (yaa_ BK501.out 0).trans rfl, (yaa_ BK501.out 1).trans rfl, (yaa_ BK501.out 2).trans rfl, (yaa_ BK501.out 3).trans rfl, (yaa_ BK501.out 4).trans rfl⟩ (fun hHeld => ?_)
 clear hK K
 refine norm_ (a' := ?_) ?_ ?_
 rotate_left
 ·show Act.put _ (some 8) _ = _
  simp only [Act.put, sA_, sZ_, sS_, i64_w, i32_w]
  rfl
 refine one_ (i := 4) (N := some 9) #[true, true, true, true, true, false] rfl rfl (by kernel_rfl) (by decide) (fun K hK => ?_)
 refine goes_ Try.func62 (by kernel_rfl) rfl #[.slice Ao11 t502.length co11, .slice Ao12 t505.length co12] (by rfl) rfl rfl mq_ ?_
 with_reducible refine (order_Multi.calls _ _ t502 _ _ t505 t508 _ ?side1 ?side2 ?side3 ?side4 A5.out).mono ?_
 (case side1 => repeat (first | exact (Kd.N_reads' HO504.out).2.2 | (with_reducible refine Kd.C_alloc ?_ _) | (with_reducible refine Kd.C_drewN ?_ _) | (with_reducible refine Kd.C_drew ?_)))
 (case side2 => exact (Kd.N_reads' HO504.out).2.1)
 (case side3 => repeat (first | exact (Kd.N_reads' HO507.out).2.2 | (with_reducible refine Kd.C_alloc ?_ _) | (with_reducible refine Kd.C_drewN ?_ _) | (with_reducible refine Kd.C_drew ?_)))
 (case side4 => exact (Kd.N_reads' HO507.out).2.1)
 rintro e w13 ⟨rfl, hb⟩
 refine ⟨_, rfl, ?_⟩
 replace HO504 := Az_.mk (Kd.N_below (nq_ HO504) hb)
 replace HO507 := Az_.mk (Kd.N_below (nq_ HO507) hb)
 replace BK500 := kb_ BK500 hb
 replace BK501 := kb_ BK501 hb
 replace HB := Az_.mk (bT_ (bq2_ HB GE500 GE501) hb)
 (try clear hb)
 (try clear hb2)
 (try clear hk)
 (try clear hi)
 refine hK.out _ _ ⟨(yaa_ BK500.out 0).trans rfl, (yaa_ BK500.out 1).trans rfl, (yaa_ BK500.out 2).trans rfl, (yaa_ BK500.out 3).trans rfl, (yaa_ BK500.out 4).trans rfl, (yaa_ BK501.out 0).trans rfl, (yaa_ BK501.out 1).trans rfl, (yaa_ BK501.out 2).trans rfl, (yaa_ BK501.out 3).trans rfl, (yaa_ BK501.out 4).trans rfl⟩ (fun hHeld => ?_)
 clear hK K
 refine norm_ (a' := ?_) ?_ ?_
 rotate_left
 ·show Act.put _ (some 9) _ = _
  simp only [Act.put, sA_, sZ_, sS_, i64_w, i32_w]
  rfl
 refine pure_ (i := 5) (N := some 4) (v := ?_) (a' := ?_) #[true, true, true, true, true, true] rfl rfl (by kernel_rfl) (fun _ _ _ h => h) (Or.inl ⟨by rfl, ?_⟩) ?_ ?_
 rotate_left
 ·intro w'
  go_simp
  with_reducible rfl
 rotate_left
 ·simp only [Act.put, sA_, sZ_, sS_, i64_w, i32_w]
  rfl
 refine done_ (by kernel_rfl) ?_
 try go_wp2
 go_ret
 exact ⟨by first | rfl | (simp [yad_, yac_] <;> rfl) | (simp [*, yad_, yac_] <;> rfl), bq2_ HB GE500 GE501⟩
end
section
def restU : List S30 → List Bool → List S30
 | y :: b, v :: u => if v = true then restU b u else y :: restU b u
 | _, _ => []
theorem restU_none : ∀ b : List S30, restU b (List.replicate b.length false) = b
 | [] => rfl
 | y :: b => by rw [List.length_cons, List.replicate_succ, restU, if_neg (by decide), restU_none b]
theorem restU_take : ∀ (b : List S30) (u : List Bool) (j : Nat) (hb : j < b.length) (hu : j < u.length), restU (b.take (j + 1)) (u.take (j + 1)) = restU (b.take j) (u.take j) ++ (if u[j] = true then [] else [b[j]])
 | y :: b, v :: u, 0, _, _ => by simp [restU]
 | y :: b, v :: u, j + 1, hb, hu => by
  have := restU_take b u j (by simpa using hb) (by simpa using hu)
  simp only [List.take_succ_cons, restU, this, List.getElem_cons_succ]
  split <;> simp
theorem restU_set : ∀ (b : List S30) (u : List Bool) (j : Nat) (z : S30) (hb : j < b.length) (hu : j < u.length), u[j] = false → sameT z b[j] = true → (restU (b.take j) (u.take j)).any (sameT z) = false →
  restU b (u.set j true) = (restU b u).eraseP (sameT z) ∧ (restU b u).any (sameT z) = true
 | y :: b, v :: u, 0, z, _, _, hv, hs, _ => by
  simp at hv hs
  subst hv
  simp [restU, hs, List.eraseP_cons]
 | y :: b, v :: u, j + 1, z, hb, hu, hv, hs, hn => by
  simp only [List.getElem_cons_succ] at hv hs
  simp only [List.take_succ_cons, restU] at hn
  cases hvv : v with
  | true =>
   rw [hvv, if_pos rfl] at hn
   obtain ⟨h1, h2⟩ := restU_set b u j z (by simpa using hb) (by simpa using hu) hv hs hn
   simp only [List.set_cons_succ, restU, if_true]
   exact ⟨h1, h2⟩
  | false =>
   rw [hvv, if_neg (by decide), List.any_cons, Bool.or_eq_false_iff] at hn
   obtain ⟨h1, h2⟩ := restU_set b u j z (by simpa using hb) (by simpa using hu) hv hs hn.2
   simp only [List.set_cons_succ, restU]
   rw [if_neg (by decide), if_neg (by decide), h1, List.eraseP_cons, hn.1, cond_false, List.any_cons, hn.1, h2]
   exact ⟨rfl, rfl⟩
theorem rdOf_at (u : List Bool) (j : Nat) (h : j < u.length) : rdOf false u (j : Int) = u[j] := by
 unfold rdOf
 simp [List.getD, List.getElem?_eq_getElem h]
theorem less_spec (a b : List S30) (ha : ∀ x ∈ a, fit x) (na : a.length ≤ 1000000) (nb : b.length ≤ 1000000) : Ev (fun k => soritesref14_less.f k a b) (diffT a b).1 := by
 have run : ∀ (m j : Nat), b.length - j = m → j ≤ b.length → ∀ (u : List Bool) (o : List S30) (i : Nat) (r : List S30), i < a.length → Ev (fun k => soritesref14_less.l0 k a b u o ((i + 1 : Nat) : Int)) r → Ev (fun k => soritesref14_less.l1 k a b u o (i : Int) true (j : Int)) r := by
  intro m
  induction m with
  | zero =>
   intro j hj hle u o i r hi h
   refine Ev.step (f := fun k => soritesref14_less.l0 k a b u o ((i + 1 : Nat) : Int)) (fun k => ?_) h
   rw [soritesref14_less.l1, if_neg (by omega), if_pos rfl, wsucc i a.length hi (by omega)]
  | succ m ih =>
   intro j hj hle u o i r hi h
   refine Ev.step (f := fun k => soritesref14_less.l1 k a b u o (i : Int) true ((j + 1 : Nat) : Int)) (fun k => ?_) (ih (j + 1) (by omega) (by omega) u o i r hi h)
   rw [soritesref14_less.l1, if_pos (by omega), if_pos rfl, wsucc j b.length (by omega) (by omega)]
 have outer : ∀ (n i : Nat), a.length - i = n → i ≤ a.length → ∀ (u : List Bool) (o : List S30), u.length = b.length → o.length ≤ i → Ev (fun k => soritesref14_less.l0 k a b u o (i : Int)) (o ++ (diffT (a.drop i) (restU b u)).1) := by
  intro n
  induction n with
  | zero =>
   intro i hi hle u o hu ho
   refine Ev.step (f := fun _ => some o) (fun k => by rw [soritesref14_less.l0, if_neg (by omega)]) ?_
   rw [List.drop_of_length_le (by omega), diffT, List.append_nil]
   exact Ev.now _
  | succ n ihn =>
   intro i hi hle u o hu ho
   have hlt : i < a.length := by omega
   rw [List.drop_eq_getElem_cons hlt]
   have inner : ∀ (m j : Nat), b.length - j = m → j ≤ b.length → (restU (b.take j) (u.take j)).any (sameT a[i]) = false → Ev (fun k => soritesref14_less.l1 k a b u o (i : Int) false (j : Int)) (o ++ (diffT (a[i] :: a.drop (i + 1)) (restU b u)).1) := by
    intro m
    induction m with
    | zero =>
     intro j hj hjl hn
     rw [List.take_of_length_le (by omega), List.take_of_length_le (by omega)] at hn
     refine Ev.step (f := fun k => soritesref14_less.l0 k a b u (o ++ [a[i]]) ((i + 1 : Nat) : Int)) (fun k => ?_) ?_
     ·rw [soritesref14_less.l1, if_neg (by omega), if_neg (by decide), if_pos (by omega), if_pos (by omega), if_pos (by omega), rd24_at a i hlt, wsucc i a.length hlt (by omega), S30.eta]
     ·have := ihn (i + 1) (by omega) (by omega) u (o ++ [a[i]]) hu (by rw [List.length_append, List.length_singleton]; omega)
      rw [diffT, if_neg (by rw [hn]; decide)]
      rw [List.append_assoc] at this
      exact this
    | succ m ihm =>
     intro j hj hjl hn
     have hjb : j < b.length := by omega
     have hju : j < u.length := by omega
     have htk := restU_take b u j hjb hju
     cases hv : u[j] with
     | true =>
      rw [hv, if_pos rfl, List.append_nil] at htk
      refine Ev.step (f := fun k => soritesref14_less.l1 k a b u o (i : Int) false ((j + 1 : Nat) : Int)) (fun k => ?_) (ihm (j + 1) (by omega) (by omega) (by rw [htk]; exact hn))
      rw [soritesref14_less.l1, if_pos (by omega), if_neg (by decide), if_pos (by omega), if_pos (by omega), rdOf_at u j hju, if_pos hv, wsucc j b.length hjb (by omega)]
     | false =>
      rw [hv, if_neg (by decide)] at htk
      have hsame := RSame_spec a[i] b[j] (ha _ (List.getElem_mem hlt))
      refine Ev.step (f := fun k => (soritesref06_Same.f k a[i].f0 a[i].f1 b[j].f0 b[j].f1).bind fun t => if t = true then soritesref14_less.l1 k a b (u.set j true) o (i : Int) true ((j + 1 : Nat) : Int) else soritesref14_less.l1 k a b u o (i : Int) false ((j + 1 : Nat) : Int)) (fun k => ?_) (Ev.bind hsame ?_)
      ·rw [soritesref14_less.l1, if_pos (by omega), if_neg (by decide), if_pos (by omega), if_pos (by omega), rdOf_at u j hju, if_neg (by rw [hv]; decide), if_pos (by omega), if_pos (by omega), rd24_at a i hlt, rd24_at b j hjb, wsucc j b.length hjb (by omega), Int.toNat_natCast]
      ·cases hs : sameT a[i] b[j] with
       | true =>
        have hs' : (cmpT a[i] b[j] == 0) = true := hs
        simp only [hs', if_true]
        obtain ⟨h1, h2⟩ := restU_set b u j a[i] hjb hju hv hs hn
        refine run (b.length - (j + 1)) (j + 1) rfl (by omega) _ _ i _ hlt ?_
        have := ihn (i + 1) (by omega) (by omega) (u.set j true) o (by rw [List.length_set]; exact hu) (by omega)
        rw [h1] at this
        rw [diffT, if_pos h2]
        exact this
       | false =>
        have hs' : (cmpT a[i] b[j] == 0) = false := hs
        simp only [hs', Bool.false_eq_true, if_false]
        exact ihm (j + 1) (by omega) (by omega) (by rw [htk, List.any_append, hn, List.any_cons, hs]; rfl)
   refine Ev.step (f := fun k => soritesref14_less.l1 k a b u o (i : Int) false ((0 : Nat) : Int)) (fun k => by rw [soritesref14_less.l0, if_pos (by omega)]; rfl) (inner b.length 0 (by omega) (by omega) rfl)
 have := outer a.length 0 rfl (by omega) (List.replicate b.length false) [] (by simp) (by simp)
 rw [restU_none] at this
 refine Ev.congr (f := fun k => soritesref14_less.l0 k a b (List.replicate b.length false) [] ((0 : Nat) : Int)) (fun k => ?_) this
 rw [soritesref14_less.f, if_pos (by omega), if_pos (by omega)]
 rw [Int.toNat_natCast]
 rfl
theorem diff_sub : ∀ (a b : List S30), (∀ x ∈ (diffT a b).1, x ∈ a) ∧ (diffT a b).1.length ≤ a.length
 | [], b => ⟨fun x h => h, Nat.le_refl _⟩
 | z :: r, b => by
  rw [diffT]
  split
  ·obtain ⟨h1, h2⟩ := diff_sub r (b.eraseP (sameT z))
   exact ⟨fun x hx => List.mem_cons_of_mem _ (h1 x hx), by rw [List.length_cons]; omega⟩
  ·obtain ⟨h1, h2⟩ := diff_sub r b
   refine ⟨fun x hx => ?_, by simp only [List.length_cons]; omega⟩
   rcases List.mem_cons.1 hx with rfl | hx
   ·simp
   ·exact List.mem_cons_of_mem _ (h1 x hx)
def refMulti (x y : List S30) : Bool := (y.all fun v => x.any fun u => gtT u v) && decide ((x.length : Int) > 0)
theorem refMulti_eq (a b : List S30) : refMulti (diffT a b).1 (diffT b a).1 = multiT a b := by
 have h1 : ∀ x, x ∈ (diffT a b).1 → cnt b x < cnt a x := fun x hx => by have := cnt_mem hx; rw [(cnt_diff a b x).1] at this; omega
 have h2 : ∀ x, cnt b x < cnt a x → ∃ y ∈ (diffT a b).1, sameT x y = true := fun x hx => cnt_pos (by rw [(cnt_diff a b x).1]; omega)
 have h3 : ∀ x, x ∈ (diffT b a).1 → cnt a x < cnt b x := fun x hx => by have := cnt_mem hx; rw [(cnt_diff b a x).1] at this; omega
 have h4 : ∀ x, cnt a x < cnt b x → ∃ y ∈ (diffT b a).1, sameT x y = true := fun x hx => cnt_pos (by rw [(cnt_diff b a x).1]; omega)
 rw [Bool.eq_iff_iff, multi_iff]
 unfold refMulti DM
 rw [Bool.and_eq_true, List.all_eq_true, decide_eq_true_iff]
 constructor
 ·rintro ⟨k2, k1⟩
  refine ⟨?_, fun y hy => ?_⟩
  ·obtain ⟨x, hx⟩ := List.exists_mem_of_length_pos (show 0 < (diffT a b).1.length by omega)
   exact ⟨x, h1 x hx⟩
  ·obtain ⟨y', hy', hs⟩ := h4 y hy
   obtain ⟨x, hx, hg⟩ := List.any_eq_true.1 (k2 y' hy')
   exact ⟨x, by rw [gt_congr x x y y' (cmp_self x) (same_iff.1 hs)]; exact hg, h1 x hx⟩
 ·rintro ⟨⟨x, hx⟩, k2⟩
  refine ⟨fun y hy => ?_, ?_⟩
  ·obtain ⟨x, hg, hx⟩ := k2 y (h3 y hy)
   obtain ⟨x', hx', hs⟩ := h2 x hx
   exact List.any_eq_true.2 ⟨x', hx', by rw [gt_congr x' x y y (eqv_symm (same_iff.1 hs)) (cmp_self y)]; exact hg⟩
  ·obtain ⟨x', hx', _⟩ := h2 x hx
   have := List.length_pos_of_mem hx'
   omega
theorem RMulti_loop (x y : List S30) (hx : ∀ u ∈ x, fit u) (hy : ∀ v ∈ y, fit v) (nx : x.length ≤ 1000000) (ny : y.length ≤ 1000000) : Ev (fun k => soritesref14_Multi.l0 k x y 0) (refMulti x y) := by
 have key : ∀ (n i : Nat), y.length - i = n → i ≤ y.length → Ev (fun k => soritesref14_Multi.l0 k x y (i : Int)) (((y.drop i).all fun v => x.any fun u => gtT u v) && decide ((x.length : Int) > 0)) := by
  intro n
  induction n with
  | zero =>
   intro i hi hle
   refine Ev.step (f := fun _ => some (decide ((x.length : Int) > 0))) (fun k => by rw [soritesref14_Multi.l0, if_neg (by omega)]) ?_
   rw [List.drop_of_length_le (by omega), List.all_nil, Bool.true_and]
   exact Ev.now _
  | succ n ihn =>
   intro i hi hle
   have hlt : i < y.length := by omega
   rw [List.drop_eq_getElem_cons hlt, List.all_cons, Bool.and_assoc]
   have inner : ∀ (m j : Nat), x.length - j = m → j ≤ x.length → ∀ b : Bool, Ev (fun k => soritesref14_Multi.l1 k x y (i : Int) b (j : Int)) ((b || (x.drop j).any fun u => gtT u y[i]) && (((y.drop (i + 1)).all fun v => x.any fun u => gtT u v) && decide ((x.length : Int) > 0))) := by
    intro m
    induction m with
    | zero =>
     intro j hj hjl b
     rw [show x.drop j = [] from List.drop_of_length_le (by omega), List.any_nil, Bool.or_false]
     cases b with
     | true =>
      refine Ev.step (f := fun k => soritesref14_Multi.l0 k x y ((i + 1 : Nat) : Int)) (fun k => by rw [soritesref14_Multi.l1, if_neg (by omega), if_pos rfl, wsucc i y.length hlt (by omega)]) ?_
      rw [Bool.true_and]
      exact ihn (i + 1) (by omega) (by omega)
     | false =>
      refine Ev.step (f := fun _ => some false) (fun k => by rw [soritesref14_Multi.l1, if_neg (by omega), if_neg (by decide)]) (Ev.now _)
    | succ m ihm =>
     intro j hj hjl b
     have hjb : j < x.length := by omega
     rw [List.drop_eq_getElem_cons hjb, List.any_cons]
     cases b with
     | true =>
      refine Ev.step (f := fun k => soritesref14_Multi.l1 k x y (i : Int) true ((j + 1 : Nat) : Int)) (fun k => by rw [soritesref14_Multi.l1, if_pos (by omega), if_pos rfl, wsucc j x.length hjb (by omega)]) ?_
      have := ihm (j + 1) (by omega) (by omega) true
      rw [Bool.true_or] at this ⊢
      exact this
     | false =>
      refine Ev.step (f := fun k => (soritesref10_Greater.f k x[j].f0 x[j].f1 y[i].f0 y[i].f1).bind fun t => soritesref14_Multi.l1 k x y (i : Int) t ((j + 1 : Nat) : Int)) (fun k => ?_) (Ev.bind (RGreater_spec x[j] y[i] (hx _ (List.getElem_mem hjb)) (hy _ (List.getElem_mem hlt))) ?_)
      ·rw [soritesref14_Multi.l1, if_pos (by omega), if_neg (by decide), if_pos (by omega), if_pos (by omega), if_pos (by omega), rd24_at x j hjb, rd24_at y i hlt, wsucc j x.length hjb (by omega)]
      ·rw [Bool.false_or]
       exact ihm (j + 1) (by omega) (by omega) _
   refine Ev.step (f := fun k => soritesref14_Multi.l1 k x y (i : Int) false ((0 : Nat) : Int)) (fun k => by rw [soritesref14_Multi.l0, if_pos (by omega)]; rfl) ?_
   have := inner x.length 0 rfl (by omega) false
   rw [Bool.false_or] at this
   exact this
 exact key y.length 0 rfl (by omega)
theorem RMulti_spec (a b : List S30) (ha : ∀ x ∈ a, fit x) (hb : ∀ x ∈ b, fit x) (na : a.length ≤ 1000000) (nb : b.length ≤ 1000000) : Ev (fun k => soritesref14_Multi.f k a b) (multiT a b) := by
 unfold soritesref14_Multi.f
 refine Ev.bind (less_spec a b ha na nb) (Ev.bind (less_spec b a hb nb na) ?_)
 rw [← refMulti_eq]
 obtain ⟨h1, h2⟩ := diff_sub a b
 obtain ⟨h3, h4⟩ := diff_sub b a
 exact RMulti_loop _ _ (fun u hu => ha u (h1 u hu)) (fun v hv => hb v (h3 v hv)) (by omega) (by omega)
def termsT (x : S78) : List S30 := if x.f0 = true then [x.f1, x.f1, x.f2, x.f2] else [x.f1, x.f2]
def grL (x y : S78) : Bool := multiT (termsT x) (termsT y)
def fitL (x : S78) : Prop := fit x.f1 ∧ fit x.f2
theorem terms_fit {x : S78} (h : fitL x) : ∀ t ∈ termsT x, fit t := by
 intro t ht
 unfold termsT at ht
 split at ht <;> simp at ht
 ·rcases ht with rfl | rfl | rfl | rfl <;> first | exact h.1 | exact h.2
 ·rcases ht with rfl | rfl <;> first | exact h.1 | exact h.2
theorem terms_len (x : S78) : (termsT x).length ≤ 4 := by unfold termsT; split <;> simp
theorem OTerms_of (x : S78) : order_Terms.f x.f0 x.f1.f0 x.f1.f1 x.f2.f0 x.f2.f1 = some (termsT x) := by
 unfold order_Terms.f termsT
 simp only [S30.eta]
 split <;> rfl
theorem RTerms_of (x : S78) : soritesref14_Terms.f x.f0 x.f1.f0 x.f1.f1 x.f2.f0 x.f2.f1 = some (termsT x) := by
 unfold soritesref14_Terms.f termsT
 simp only [S30.eta]
 split <;> rfl
theorem OGreater_of {x y : S78} (hx : fitL x) (hy : fitL y) : order_Greater.f x.f0 x.f1.f0 x.f1.f1 x.f2.f0 x.f2.f1 y.f0 y.f1.f0 y.f1.f1 y.f2.f0 y.f2.f1 = some (grL x y) := by
 unfold order_Greater.f
 rw [OTerms_of, OTerms_of, Option.bind_some, Option.bind_some, Multi_of (terms_fit hx) (terms_fit hy) (by have := terms_len x; omega) (by have := terms_len y; omega)]
 rfl
theorem RGreaterL_spec {x y : S78} (hx : fitL x) (hy : fitL y) : Ev (fun k => soritesref14_Greater.f k x.f0 x.f1.f0 x.f1.f1 x.f2.f0 x.f2.f1 y.f0 y.f1.f0 y.f1.f1 y.f2.f0 y.f2.f1) (grL x y) := by
 unfold soritesref14_Greater.f
 simp only [RTerms_of, Option.bind_some]
 exact Ev.bind (RMulti_spec _ _ (terms_fit hx) (terms_fit hy) (by have := terms_len x; omega) (by have := terms_len y; omega)) (Ev.now _)
end
section
attribute [local go_sem] max2_int min2_int max_two min_two yal_ yak_ max_four min_four
def order_weight.f (a0_0 : Bool) (a0_1 : Int) (l0_2 : List (S30)) (a0_3 : Int) (l0_4 : List (S30)) : Option (Int) := (term_Size.f a0_1 l0_2).bind fun t364 => ((term_Size.f a0_3 l0_4).bind fun t365 => (some (wrap64 (t364 + t365))))
def order_weight.T1 : Bool × List (List Nat × List Nat) := (true, [([], []), ([0], [0]), ([1], [1]), ([], []), ([3], [3]), ([4, 2], [4]), ([2, 5], [2, 5]), ([6, 5, 0, 1, 2, 3, 4, 5, 6], [6])])
def order_weight.B1 : List Nat := [0, 1, 3, 0, 8, 31, 63, 127]
theorem order_weight.tab1 : rtab .any (opsOf Try.f86 1) = order_weight.T1 := by kernel_rfl
theorem order_weight.bits1 : waitsOk order_weight.T1.2 order_weight.B1 = true := by kernel_rfl
set_option maxHeartbeats 8000000 in
set_option maxRecDepth 100000 in
theorem order_weight.calls (a0_0 : Bool) (a0_1 : Int) (A0_2 : Option Addr) (c0_2 : Nat) (l0_2 : List (S30)) (a0_3 : Int) (A0_4 : Option Addr) (c0_4 : Nat) (l0_4 : List (S30)) (r : Int) (w : World) (hr0_2 : Kd.C k30 w A0_2 l0_2.length l0_2) (hc0_2 : l0_2.length ≤ c0_2) (hr0_4 : Kd.C k30 w A0_4 l0_4.length l0_4) (hc0_4 : l0_4.length ≤ c0_4) (h : order_weight.f a0_0 a0_1 l0_2 a0_3 l0_4 = some r) :
  Calls Try.prog 86 #[.agg #[.bool a0_0, .int .i64 a0_1, .slice A0_2 l0_2.length c0_2, .int .i64 a0_3, .slice A0_4 l0_4.length c0_4]] w fun e w' => e = .returned (.int .i64 r) ∧ Below w.heap.size w w' := by
 have hu78 := Try.underlying78
 have hu30 := Try.underlying30
 have HR0_2 := Az_.mk hr0_2
 have HC0_2 := Az_.mk hc0_2
 clear hr0_2 hc0_2
 have HR0_4 := Az_.mk hr0_4
 have HC0_4 := Az_.mk hc0_4
 clear hr0_4 hc0_4
 have HB := Az_.mk (Below.refl w.heap.size w)
 have H : ((term_Size.f a0_1 l0_2).bind fun t364 => ((term_Size.f a0_3 l0_4).bind fun t365 => (some (wrap64 (t364 + t365))))) = some r := h
 clear h
 replace H := Option.bind_eq_some_iff.mp H
 obtain ⟨t364, A20, H⟩ := H
 replace H : ((term_Size.f a0_3 l0_4).bind fun t365 => (some (wrap64 (t364 + t365)))) = some r := H
 have A2 := Az_.mk A20
 clear A20
 replace H := Option.bind_eq_some_iff.mp H
 obtain ⟨t365, A30, H⟩ := H
 replace H : (some (wrap64 (t364 + t365))) = some r := H
 have A3 := Az_.mk A30
 clear A30
 obtain rfl := Option.some.inj H
 go_enter Try.func86, Try.ntmps86
 try go_wp2_with (first | ((with_reducible refine yag_ (N := 1) rfl ?_); refine yah_ ?hg (N := 1) ?hd (cs := #[.bool a0_0, .int .i64 a0_1, .slice A0_2 l0_2.length c0_2, .int .i64 a0_3, .slice A0_4 l0_4.length c0_4]) (t := 78) ?hr ?_; (case hd => rfl); (case hg => rfl); (case hr => exact rq_); intro gb363 hg w4 hbox hb; have BK363 := Az_.mk (hbox); have GW363 := Az_.mk ((by rw [hg]; exact (bZ_ (bq_ HB)) : w.heap.size ≤ gb363)); have GE363 := Az_.mk ((by rw [hg]; exact (bZ_ (bq_ HB)) : w.heap.size ≤ gb363)); replace HB := Az_.mk (bT_ (bq_ HB) hb); clear hb hbox hg))
 replace BK363 := Az_.mk (kD_ BK363.out)
 replace HB := Az_.mk (bD_ HB.out)
 refine start_ (n := 8) (S := fun w' => w'.cell? ⟨gb363, 0, none⟩ = some (.bool a0_0) ∧ w'.cell? ⟨gb363, 1, none⟩ = some (.int .i64 a0_1) ∧ w'.cell? ⟨gb363, 2, none⟩ = some (.slice A0_2 l0_2.length c0_2) ∧ w'.cell? ⟨gb363, 3, none⟩ = some (.int .i64 a0_3) ∧ w'.cell? ⟨gb363, 4, none⟩ = some (.slice A0_4 l0_4.length c0_4)) (ds := []) #[false, false, false, false, false, false, false, false] (by kernel_rfl) rfl rfl ⟨(yaa_ BK363.out 0).trans rfl, (yaa_ BK363.out 1).trans rfl, (yaa_ BK363.out 2).trans rfl, (yaa_ BK363.out 3).trans rfl, (yaa_ BK363.out 4).trans rfl⟩ (fun hHeld => ?_); refine with_tabW order_weight.tab1 order_weight.bits1 (fun HT_ HW_ => ?_)
 generalize w4.drew = w5 at BK363 HB hHeld ⊢
 refine pa_ 0 3 HT_ ?_
 refine pa_ 3 6 HT_ ?_
 refine ta5_ 1 4 HT_ HW_ hHeld ?_
 refine ta5_ 4 7 HT_ HW_ hHeld ?_
 refine one_ (i := 2) (N := some 5) #[true, true, true, true, true, false, false, false] rfl rfl (one_of HT_.out (by kernel_rfl)) (by decide) (fun K hK => ?_)
 refine goes_ Try.func34 (by kernel_rfl) rfl #[.agg #[.int .i64 a0_1, .slice A0_2 l0_2.length c0_2]] (by rfl) rfl rfl mq_ ?_
 with_reducible refine (term_Size.calls a0_1 _ _ l0_2 t364 _ ?side1 ?side2 A2.out).mono ?_
 (case side1 => exact cq_ (Kd.C_below HR0_2.out HB.out))
 (case side2 => exact HC0_2.out)
 rintro e w6 ⟨rfl, hb⟩
 refine ⟨_, rfl, ?_⟩
 replace BK363 := kb_ BK363 hb
 replace HB := Az_.mk (bT_ (bq1_ HB GE363) hb)
 (try clear hb)
 (try clear hb2)
 (try clear hk)
 (try clear hi)
 refine hK.out _ _ ⟨(yaa_ BK363.out 0).trans rfl, (yaa_ BK363.out 1).trans rfl, (yaa_ BK363.out 2).trans rfl, (yaa_ BK363.out 3).trans rfl, (yaa_ BK363.out 4).trans rfl⟩ (fun hHeld => ?_)
 clear hK K
 refine norm_ (a' := ?_) ?_ ?_
 rotate_left
 ·show Act.put _ (some 5) _ = _
  simp only [Act.put, sA_, sZ_, sS_, i64_w, i32_w]
  rfl
 refine one_ (i := 5) (N := some 8) #[true, true, true, true, true, true, false, false] rfl rfl (one_of HT_.out (by kernel_rfl)) (by decide) (fun K hK => ?_)
 refine goes_ Try.func34 (by kernel_rfl) rfl #[.agg #[.int .i64 a0_3, .slice A0_4 l0_4.length c0_4]] (by rfl) rfl rfl mq_ ?_
 with_reducible refine (term_Size.calls a0_3 _ _ l0_4 t365 _ ?side1 ?side2 A3.out).mono ?_
 (case side1 => exact cq_ (Kd.C_below HR0_4.out HB.out))
 (case side2 => exact HC0_4.out)
 rintro e w7 ⟨rfl, hb⟩
 refine ⟨_, rfl, ?_⟩
 replace BK363 := kb_ BK363 hb
 replace HB := Az_.mk (bT_ (bq1_ HB GE363) hb)
 (try clear hb)
 (try clear hb2)
 (try clear hk)
 (try clear hi)
 refine hK.out _ _ ⟨(yaa_ BK363.out 0).trans rfl, (yaa_ BK363.out 1).trans rfl, (yaa_ BK363.out 2).trans rfl, (yaa_ BK363.out 3).trans rfl, (yaa_ BK363.out 4).trans rfl⟩ (fun hHeld => ?_)
 clear hK K
 refine norm_ (a' := ?_) ?_ ?_
 rotate_left
 ·show Act.put _ (some 8) _ = _
  simp only [Act.put, sA_, sZ_, sS_, i64_w, i32_w]
  rfl
 refine pa_ 6 9 HT_ ?_
 refine pa_ 7 2 HT_ ?_
 refine done_ (done_of HT_.out (by kernel_rfl)) ?_
 try go_wp2
 go_ret
 exact ⟨by first | rfl | (simp [yad_, yac_] <;> rfl) | (simp [*, yad_, yac_] <;> rfl), bq1_ HB GE363⟩
end
section
set_option maxHeartbeats 4000000 in
set_option maxRecDepth 100000 in
theorem Greatest1_r1 {id : Nat} {a : Act} {w : World} {Q : Exit → Act → World → Prop} {gx gc gi m c : Nat} {i : Int} {ad : Addr} {x0 x1 x2 x3 x4 e0 e1 e2 e3 e4 : Value} {r : Bool}
  (hr : regionOk #[{ dst := some 5, op := Op.load 78 (Operand.tmp 3), type := 78, pos := "order.go:47", after := #[], guard := none }, { dst := some 6, op := Op.load 68 (Operand.tmp 1), type := 68, pos := "order.go:47", after := #[], guard := none }, { dst := some 7, op := Op.load 3 (Operand.tmp 2), type := 3, pos := "order.go:47", after := #[], guard := none }, { dst := some 8, op := Op.indexAddr 68 (Operand.tmp 6) (Operand.tmp 7), type := 0, pos := "order.go:47", after := #[{ on := 1, ground := Ground.data }, { on := 2, ground := Ground.data }], guard := none }, { dst := some 9, op := Op.load 78 (Operand.tmp 8), type := 78, pos := "order.go:47", after := #[{ on := 3, ground := Ground.data }], guard := none }, { dst := some 10, op := Op.call { callee := Callee.value (Operand.func 66), args := #[Operand.tmp 5, Operand.tmp 9], argTypes := #[78, 78] }, type := 4, pos := "order.go:47", after := #[{ on := 0, ground := Ground.data }, { on := 4, ground := Ground.data }], guard := none }, { dst := some 4, op := Op.assign (Operand.tmp 10), type := 4, pos := "order.go:47", after := #[{ on := 5, ground := Ground.data }, { on := 5, ground := Ground.chain }, { on := 0, ground := Ground.phase }, { on := 1, ground := Ground.phase }, { on := 2, ground := Ground.phase }, { on := 3, ground := Ground.phase }, { on := 4, ground := Ground.phase }, { on := 5, ground := Ground.phase }], guard := none }] a.tmps.size = true)
  (hT3 : a.tmps.getD 3 undef = .pointer (some ⟨gx, 0, none⟩)) (hX3 : w.heap[gx]? = some (.cells #[x0, x1, x2, x3, x4] 78 (0, 0)))
  (hT1 : a.tmps.getD 1 undef = .pointer (some ⟨gc, 0, none⟩)) (hX1 : w.heap[gc]? = some (.cells #[.slice (some ad) m c] 68 (0, 0)))
  (hT2 : a.tmps.getD 2 undef = .pointer (some ⟨gi, 0, none⟩)) (hX2 : w.heap[gi]? = some (.cells #[.int .i64 i] 3 (0, 0)))
  (hF5 : ∀ w1, Below w.heap.size w w1 → Calls Try.prog 66 #[.agg #[x0, x1, x2, x3, x4], .agg #[e0, e1, e2, e3, e4]] w1 fun e w2 => e = .returned (.bool r) ∧ Below w1.heap.size w1 w2)
  (hi : 0 ≤ i ∧ i < m) (h0 : w.cell? (ad.add (i.toNat * 5)) = some e0) (h1 : w.cell? ⟨(ad.add (i.toNat * 5)).block, (ad.add (i.toNat * 5)).off + 1, none⟩ = some e1) (h2 : w.cell? ⟨(ad.add (i.toNat * 5)).block, (ad.add (i.toNat * 5)).off + 2, none⟩ = some e2) (h3 : w.cell? ⟨(ad.add (i.toNat * 5)).block, (ad.add (i.toNat * 5)).off + 3, none⟩ = some e3) (h4 : w.cell? ⟨(ad.add (i.toNat * 5)).block, (ad.add (i.toNat * 5)).off + 4, none⟩ = some e4)
  (hK : ∀ v w', Below w.heap.size w w' → v 6 = .bool r → Q .normal { tmps := layL [some 5, some 6, some 7, some 8, some 9, some 10, some 4] 0 v a.tmps, defers := a.defers } w') :
  (Code.region id #[{ dst := some 5, op := Op.load 78 (Operand.tmp 3), type := 78, pos := "order.go:47", after := #[], guard := none }, { dst := some 6, op := Op.load 68 (Operand.tmp 1), type := 68, pos := "order.go:47", after := #[], guard := none }, { dst := some 7, op := Op.load 3 (Operand.tmp 2), type := 3, pos := "order.go:47", after := #[], guard := none }, { dst := some 8, op := Op.indexAddr 68 (Operand.tmp 6) (Operand.tmp 7), type := 0, pos := "order.go:47", after := #[{ on := 1, ground := Ground.data }, { on := 2, ground := Ground.data }], guard := none }, { dst := some 9, op := Op.load 78 (Operand.tmp 8), type := 78, pos := "order.go:47", after := #[{ on := 3, ground := Ground.data }], guard := none }, { dst := some 10, op := Op.call { callee := Callee.value (Operand.func 66), args := #[Operand.tmp 5, Operand.tmp 9], argTypes := #[78, 78] }, type := 4, pos := "order.go:47", after := #[{ on := 0, ground := Ground.data }, { on := 4, ground := Ground.data }], guard := none }, { dst := some 4, op := Op.assign (Operand.tmp 10), type := 4, pos := "order.go:47", after := #[{ on := 5, ground := Ground.data }, { on := 5, ground := Ground.chain }, { on := 0, ground := Ground.phase }, { on := 1, ground := Ground.phase }, { on := 2, ground := Ground.phase }, { on := 3, ground := Ground.phase }, { on := 4, ground := Ground.phase }, { on := 5, ground := Ground.phase }], guard := none }] true).wp Try.prog Q a w := by
 have hmx : Try.prog.follows .mixedOrders = true := by kernel_rfl
 refine region_detR 7 hmx hr (by kernel_rfl) ?_
 refine DetR.is (o := { dst := some 5, op := Op.load 78 (Operand.tmp 3), type := 78, pos := "order.go:47", after := #[], guard := none }) (u := .agg #[x0, x1, x2, x3, x4]) rfl (by decide) (fun T w' hb hd hB K hK => ?sx1) ?rx1
 case sx1 =>
  have e3 := (hB 3 (by kernel_rfl)).trans hT3
  have q3_0 : w'.cell? ⟨gx, 0, none⟩ = some (x0) := (yaa_ (kB_ hX3 hb) 0).trans rfl
  have q3_1 : w'.cell? ⟨gx, 1, none⟩ = some (x1) := (yaa_ (kB_ hX3 hb) 1).trans rfl
  have q3_2 : w'.cell? ⟨gx, 2, none⟩ = some (x2) := (yaa_ (kB_ hX3 hb) 2).trans rfl
  have q3_3 : w'.cell? ⟨gx, 3, none⟩ = some (x3) := (yaa_ (kB_ hX3 hb) 3).trans rfl
  have q3_4 : w'.cell? ⟨gx, 4, none⟩ = some (x4) := (yaa_ (kB_ hX3 hb) 4).trans rfl
  rw [if_pos (yab_ _ rfl)]
  clear hd hB
  go_simp
  exact hK _ (Below.refl _ _)
 refine DetR.is (o := { dst := some 6, op := Op.load 68 (Operand.tmp 1), type := 68, pos := "order.go:47", after := #[], guard := none }) (u := ?ux2) rfl (by decide) (fun T w' hb hd hB K hK => ?sx2) ?rx2
 case sx2 =>
  have e1 := (hB 1 (by kernel_rfl)).trans hT1
  have q1_0 : w'.cell? ⟨gc, 0, none⟩ = some (.slice (some ad) m c) := (yaa_ (kB_ hX1 hb) 0).trans rfl
  rw [if_pos (yab_ _ rfl)]
  clear hd hB
  go_simp
  exact hK _ (Below.refl _ _)
 refine DetR.is (o := { dst := some 7, op := Op.load 3 (Operand.tmp 2), type := 3, pos := "order.go:47", after := #[], guard := none }) (u := ?ux3) rfl (by decide) (fun T w' hb hd hB K hK => ?sx3) ?rx3
 case sx3 =>
  have e2 := (hB 2 (by kernel_rfl)).trans hT2
  have q2_0 : w'.cell? ⟨gi, 0, none⟩ = some (.int .i64 i) := (yaa_ (kB_ hX2 hb) 0).trans rfl
  rw [if_pos (yab_ _ rfl)]
  clear hd hB
  go_simp
  exact hK _ (Below.refl _ _)
 refine DetR.is (o := { dst := some 8, op := Op.indexAddr 68 (Operand.tmp 6) (Operand.tmp 7), type := 0, pos := "order.go:47", after := #[{ on := 1, ground := Ground.data }, { on := 2, ground := Ground.data }], guard := none }) (u := ?ux4) rfl (by decide) (fun T w' hb hd hB K hK => ?sx4) ?rx4
 case sx4 =>
  have e6 := hd 1 6 _ (by decide) (by kernel_rfl) rfl rfl
  replace e6 : T.getD 6 undef = _ := e6
  have e7 := hd 2 7 _ (by decide) (by kernel_rfl) rfl rfl
  replace e7 : T.getD 7 undef = _ := e7
  rw [if_pos (yab_ _ rfl)]
  obtain ⟨k0, k1⟩ := hi
  clear hd hB
  go_simp
  exact hK _ (Below.refl _ _)
 refine DetR.is (o := { dst := some 9, op := Op.load 78 (Operand.tmp 8), type := 78, pos := "order.go:47", after := #[{ on := 3, ground := Ground.data }], guard := none }) (u := .agg #[e0, e1, e2, e3, e4]) rfl (by decide) (fun T w' hb hd hB K hK => ?sx5) ?rx5
 case sx5 =>
  have e8 := hd 3 8 _ (by decide) (by kernel_rfl) rfl rfl
  replace e8 : T.getD 8 undef = _ := e8
  rw [if_pos (yab_ _ rfl)]
  have r0 := yae_ hb h0
  have r1 := yae_ hb h1
  have r2 := yae_ hb h2
  have r3 := yae_ hb h3
  have r4 := yae_ hb h4
  clear hd hB
  go_simp
  exact hK _ (Below.refl _ _)
 refine DetR.is (o := { dst := some 10, op := Op.call { callee := Callee.value (Operand.func 66), args := #[Operand.tmp 5, Operand.tmp 9], argTypes := #[78, 78] }, type := 4, pos := "order.go:47", after := #[{ on := 0, ground := Ground.data }, { on := 4, ground := Ground.data }], guard := none }) (u := .bool r) rfl (by decide) (fun T w' hb hd hB K hK => ?sx6) ?rx6
 case sx6 =>
  have e5 := hd 0 5 _ (by decide) (by kernel_rfl) rfl rfl
  replace e5 : T.getD 5 undef = _ := e5
  have e9 := hd 4 9 _ (by decide) (by kernel_rfl) rfl rfl
  replace e9 : T.getD 9 undef = _ := e9
  rw [if_pos (yab_ _ rfl)]
  have hcl := hF5 w' hb
  clear hd hB
  go_simp
  go_at_call 66
  refine hcl.mono ?_
  rintro e w2 ⟨rfl, h2⟩
  exact hK _ h2
 refine DetR.is (o := { dst := some 4, op := Op.assign (Operand.tmp 10), type := 4, pos := "order.go:47", after := #[{ on := 5, ground := Ground.data }, { on := 5, ground := Ground.chain }, { on := 0, ground := Ground.phase }, { on := 1, ground := Ground.phase }, { on := 2, ground := Ground.phase }, { on := 3, ground := Ground.phase }, { on := 4, ground := Ground.phase }, { on := 5, ground := Ground.phase }], guard := none }) (u := ?ux7) rfl (by decide) (fun T w' hb hd hB K hK => ?sx7) ?rx7
 case sx7 =>
  have e10 := hd 5 10 _ (by decide) (by kernel_rfl) rfl rfl
  replace e10 : T.getD 10 undef = _ := e10
  rw [if_pos (yab_ _ rfl)]
  clear hd hB
  go_simp
  exact hK _ (Below.refl _ _)
 refine DetR.done [some 5, some 6, some 7, some 8, some 9, some 10, some 4] (by kernel_rfl) rfl (by kernel_rfl) ?_
 intro v w' hb hv
 exact hK v w' hb (hv 6 _ (by decide) rfl)
theorem rd78_at (l : List S78) (k : Nat) (h : k < l.length) : rd_T78 l (k : Int) = l[k] := by
 unfold rd_T78
 simp [List.getD, List.getElem?_eq_getElem h]
set_option maxHeartbeats 4000000 in
set_option maxRecDepth 100000 in
theorem IndexFunc_L (l : List S78) (A : Option Addr) (c : Nat) (hc : l.length ≤ c) (g : Nat) (cb : Array Value) (p : Nat → Bool) (w : World) (hC : k78.C w A l.length l)
  (eg : ∀ args w1, (callFunc g args).run Try.prog w1 = .ok (.enter g args) w1)
  (hstep : ∀ j (hj : j < l.length) W, Below w.heap.size w W → ∀ A2 c2 A4 c4, l[j].f1.f1.length ≤ c2 → k30.C W A2 l[j].f1.f1.length l[j].f1.f1 → l[j].f2.f1.length ≤ c4 → k30.C W A4 l[j].f2.f1.length l[j].f2.f1 → Calls Try.prog g (#[.agg #[.bool l[j].f0, .int .i64 l[j].f1.f0, .slice A2 l[j].f1.f1.length c2, .int .i64 l[j].f2.f0, .slice A4 l[j].f2.f1.length c4]] ++ cb) W fun r w' => r = .returned (.bool (p j)) ∧ Below W.heap.size W w') :
  Calls Try.prog 107 #[.slice A l.length c, .func (.func g) #[] cb] w fun r w' => ((∃ k, k < l.length ∧ p k = true ∧ (∀ j, j < k → p j = false) ∧ r = .returned (.int .i64 (k : Int))) ∨ ((∀ j, j < l.length → p j = false) ∧ r = .returned (.int .i64 (-1)))) ∧ Below w.heap.size w w' := by
 have hmax : l.length ≤ 9223372036854775807 := hC.2.1
 have hcz := Az_.mk hC
 have hsz := Az_.mk hstep
 clear hC hstep
 go_enter Try.func107, Try.ntmps107
 go_wp2
 go_loopw [8] (fun i wr => ∃ k : Nat, k ≤ l.length ∧ i = .int .i64 k ∧ Az_ (∀ j, j < k → p j = false) ∧ Az_ (Below w.heap.size w wr)) (fun i wr => l.length - (intOf i).toNat)
 case atStart => exact ⟨0, Nat.zero_le _, rfl, ⟨fun j hj => absurd hj (Nat.not_lt_zero _)⟩, ⟨Below.refl _ _⟩⟩
 case round =>
  obtain ⟨k, hk, rfl, hp, hb⟩ := hrel
  by_cases hlt : k < l.length
  ·obtain ⟨ad, A2, c2, A4, c4, rfl, x0, x1, x2, x3, x4, l2, g2, l4, g4⟩ := at_T78 (Kd.C_below hcz.out hb.out) (k : Int) (by omega) (by omega)
   rw [rd78_at l k hlt] at x0 x1 x2 x3 x4 l2 g2 l4 g4
   rw [Int.toNat_natCast] at x0 x1 x2 x3 x4
   have hcl := Az_.mk (hsz.out k hlt wr hb.out A2 c2 A4 c4 l2 g2 l4 g4)
   generalize l[k].f0 = y0 at x0 hcl
   generalize l[k].f1.f0 = y1 at x1 hcl
   generalize l[k].f1.f1.length = y2 at x2 hcl
   generalize l[k].f2.f0 = y3 at x3 hcl
   generalize l[k].f2.f1.length = y4 at x4 hcl
   clear l2 g2 l4 g4
   cases hpk : p k with
   | false =>
    rw [hpk] at hcl
    have hpz := Az_.mk hpk
    clear hpk
    go_wp2_with (go_at_fn g; refine hcl.out.mono ?_; rintro r w3 ⟨rfl, hb3⟩; have hb4 := Az_.mk (hb.out.trans (hb3.mono hb.out.size)); clear hb3)
    go_roundw
    case rel => exact ⟨k + 1, by omega, by go_num, ⟨fun j hj => if h : j < k then hp.out j h else (show k = j by omega) ▸ hpz.out⟩, hb4⟩
    case measure => simp [intOf]; omega
   | true =>
    rw [hpk] at hcl
    have hpz := Az_.mk hpk
    clear hpk
    go_wp2_with (go_at_fn g; refine hcl.out.mono ?_; rintro r w3 ⟨rfl, hb3⟩; have hb4 := Az_.mk (hb.out.trans (hb3.mono hb.out.size)); clear hb3)
    go_ret
    exact ⟨.inl ⟨k, hlt, hpz.out, hp.out, rfl⟩, hb4.out⟩
  ·have hke : k = l.length := by omega
   subst hke
   go_wp2
   go_ret
   exact ⟨.inr ⟨hp.out, rfl⟩, hb.out⟩
set_option maxHeartbeats 4000000 in
set_option maxRecDepth 100000 in
theorem ContainsFunc_L (l : List S78) (A : Option Addr) (c : Nat) (hc : l.length ≤ c) (g : Nat) (cb : Array Value) (p : Nat → Bool) (b : Bool) (w : World) (hC : k78.C w A l.length l)
  (eg : ∀ args w1, (callFunc g args).run Try.prog w1 = .ok (.enter g args) w1)
  (hstep : ∀ j (hj : j < l.length) W, Below w.heap.size w W → ∀ A2 c2 A4 c4, l[j].f1.f1.length ≤ c2 → k30.C W A2 l[j].f1.f1.length l[j].f1.f1 → l[j].f2.f1.length ≤ c4 → k30.C W A4 l[j].f2.f1.length l[j].f2.f1 → Calls Try.prog g (#[.agg #[.bool l[j].f0, .int .i64 l[j].f1.f0, .slice A2 l[j].f1.f1.length c2, .int .i64 l[j].f2.f0, .slice A4 l[j].f2.f1.length c4]] ++ cb) W fun r w' => r = .returned (.bool (p j)) ∧ Below W.heap.size W w')
  (hr : b = true ↔ ∃ j, j < l.length ∧ p j = true) :
  Calls Try.prog 87 #[.slice A l.length c, .func (.func g) #[] cb] w fun r w' => r = .returned (.bool b) ∧ Below w.heap.size w w' := by
 have hI := Az_.mk (IndexFunc_L l A c hc g cb p w hC eg hstep)
 clear hC hstep
 cases b with
 | true =>
  obtain ⟨j, hj, hp⟩ := hr.1 rfl
  have hI2 := Az_.mk (hI.out.mono (fun x w' h => (⟨h.1.elim (fun ⟨k, hk, _, _, h2⟩ => ⟨k, hk, h2⟩) (fun h => absurd (h.1 j hj) (by rw [hp]; decide)), h.2⟩ : (∃ k, k < l.length ∧ x = .returned (.int .i64 (k : Int))) ∧ Below w.heap.size w w')))
  clear hr hp hj hI
  go_enter Try.func87, Try.ntmps87
  go_wp2_with (go_at_call 107; refine hI2.out.mono ?_; rintro x w2 ⟨⟨k, hk, rfl⟩, hi⟩; have hi2 := Az_.mk hi; have hd : decide (0 ≤ (k : Int)) = true := decide_eq_true (by omega); clear hi)
  go_ret
  exact ⟨rfl, hi2.out⟩
 | false =>
  have hno : ∀ k, k < l.length → p k = false := fun k hk => by
   cases h : p k with
   | false => rfl
   | true => exact absurd (hr.2 ⟨k, hk, h⟩) (by decide)
  have hI2 := Az_.mk (hI.out.mono (fun x w' h => (⟨h.1.elim (fun ⟨k, hk, hp, _⟩ => absurd (hno k hk) (by rw [hp]; decide)) (fun h => h.2), h.2⟩ : x = .returned (.int .i64 (-1)) ∧ Below w.heap.size w w')))
  clear hr hno hI
  go_enter Try.func87, Try.ntmps87
  go_wp2_with (go_at_call 107; refine hI2.out.mono ?_; rintro x w2 ⟨rfl, hi⟩; have hi2 := Az_.mk hi; clear hi)
  go_ret
  exact ⟨rfl, hi2.out⟩
theorem eg88 : ∀ args w1, (callFunc 88 args).run Try.prog w1 = .ok (.enter 88 args) w1 := enters_of Try.func88 (by kernel_rfl) rfl
set_option maxHeartbeats 4000000 in
set_option maxRecDepth 100000 in
theorem great88_calls (gc gi : Nat) (l : List S78) (i : Nat) (hi : i < l.length) (A : Option Addr) (c : Nat) (x : S78) (X : Option Addr) (cx : Nat) (Y : Option Addr) (cy : Nat) (r : Bool) (w : World)
  (hbc : w.heap[gc]? = some (.cells #[.slice A l.length c] 68 (0, 0))) (hbi : w.heap[gi]? = some (.cells #[.int .i64 (i : Int)] 3 (0, 0))) (hC : k78.C w A l.length l)
  (lx : x.f1.f1.length ≤ cx) (hX : k30.C w X x.f1.f1.length x.f1.f1) (ly : x.f2.f1.length ≤ cy) (hY : k30.C w Y x.f2.f1.length x.f2.f1)
  (hr : order_Greater.f x.f0 x.f1.f0 x.f1.f1 x.f2.f0 x.f2.f1 l[i].f0 l[i].f1.f0 l[i].f1.f1 l[i].f2.f0 l[i].f2.f1 = some r) :
  Calls Try.prog 88 #[.agg #[.bool x.f0, .int .i64 x.f1.f0, .slice X x.f1.f1.length cx, .int .i64 x.f2.f0, .slice Y x.f2.f1.length cy], .pointer (some ⟨gc, 0, none⟩), .pointer (some ⟨gi, 0, none⟩)] w fun z w' => z = .returned (.bool r) ∧ Below w.heap.size w w' := by
 obtain ⟨ad, A2, c2, A4, c4, rfl, x0, x1, x2, x3, x4, l2, g2, l4, g4⟩ := at_T78 hC (i : Int) (by omega) (by omega)
 rw [rd78_at l i hi] at x0 x1 x2 x3 x4 l2 g2 l4 g4
 obtain ⟨w1, hw1⟩ : ∃ w1, w1 = w.alloc (.cells #[.bool x.f0, .int .i64 x.f1.f0, .slice X x.f1.f1.length cx, .int .i64 x.f2.f0, .slice Y x.f2.f1.length cy] 78) := ⟨_, rfl⟩
 have hb1 : Below w.heap.size w w1 := by rw [hw1]; exact bA_ (Below.refl _ _) _
 have hbx : w1.heap[w.heap.size]? = some (.cells #[.bool x.f0, .int .i64 x.f1.f0, .slice X x.f1.f1.length cx, .int .i64 x.f2.f0, .slice Y x.f2.f1.length cy] 78 (0, 0)) := by rw [hw1]; exact heap_alloc_new _ _
 have F := Az_.mk (And.intro (yae_ hb1 x0) (And.intro (yae_ hb1 x1) (And.intro (yae_ hb1 x2) (And.intro (yae_ hb1 x3) (yae_ hb1 x4)))))
 have G := Az_.mk (And.intro (Kd.C_below g2 hb1) (And.intro (Kd.C_below g4 hb1) (And.intro (Kd.C_below hX hb1) (Kd.C_below hY hb1))))
 have L4 := Az_.mk (And.intro l2 (And.intro l4 (And.intro lx ly)))
 have BX := Az_.mk (And.intro hbx (And.intro (kB_ hbc hb1) (kB_ hbi hb1)))
 have HB := Az_.mk hb1
 have HW := Az_.mk hw1
 have HR := Az_.mk hr
 have HI := Az_.mk hi
 clear x0 x1 x2 x3 x4 l2 g2 l4 g4 hb1 hbx hw1 hbc hbi hC lx hX ly hY hr
 go_enter Try.func88, Try.ntmps88
 go_wp2
 rw [← HW.out]
 refine Greatest1_r1 (gx := w.heap.size) (gc := gc) (gi := gi) (m := l.length) (c := c) (i := (i : Int)) (ad := ad) (r := r) (by kernel_rfl) rfl BX.out.1 rfl BX.out.2.1 rfl BX.out.2.2 ?_ ⟨by omega, by have := HI.out; omega⟩ F.out.1 F.out.2.1 F.out.2.2.1 F.out.2.2.2.1 F.out.2.2.2.2 ?_
 ·intro w2 hb
  exact order_Greater.calls x.f0 x.f1.f0 X cx x.f1.f1 x.f2.f0 Y cy x.f2.f1 l[i].f0 l[i].f1.f0 A2 c2 l[i].f1.f1 l[i].f2.f0 A4 c4 l[i].f2.f1 r w2 (Kd.C_below G.out.2.2.1 hb) L4.out.2.2.1 (Kd.C_below G.out.2.2.2 hb) L4.out.2.2.2 (Kd.C_below G.out.1 hb) L4.out.1 (Kd.C_below G.out.2.1 hb) L4.out.2.1 HR.out
 intro v w2 hb2 hv6
 simp only [layL, Nat.reduceAdd, List.setIfInBounds_toArray, List.set_cons_zero, List.set_cons_succ, hv6]
 clear hv6
 generalize v 0 = t0
 generalize v 1 = t1
 generalize v 2 = t2
 generalize v 3 = t3
 generalize v 4 = t4
 generalize v 5 = t5
 clear v
 have HB2 := Az_.mk (HB.out.trans (hb2.mono HB.out.size))
 clear hb2
 go_wp2
 go_ret
 exact ⟨rfl, HB2.out⟩
def gr78 (x y : S78) : Option Bool := order_Greater.f x.f0 x.f1.f0 x.f1.f1 x.f2.f0 x.f2.f1 y.f0 y.f1.f0 y.f1.f1 y.f2.f0 y.f2.f1
def order_Greatest.f (l : List S78) (i : Int) : Option Bool :=
 if i < 0 ∨ (l.length : Int) ≤ i then some false else if l.all (fun x => (gr78 x (rd_T78 l i)).isSome) = true then some (!(l.any fun x => gr78 x (rd_T78 l i) == some true)) else none
set_option maxHeartbeats 4000000 in
set_option maxRecDepth 100000 in
theorem order_Greatest.calls (A0 : Option Addr) (c0 : Nat) (l0 : List S78) (a1 : Int) (r : Bool) (w : World) (hr0 : Kd.C k78 w A0 l0.length l0) (hc0 : l0.length ≤ c0) (h : order_Greatest.f l0 a1 = some r) :
  Calls Try.prog 59 #[.slice A0 l0.length c0, .int .i64 a1] w fun e w' => e = .returned (.bool r) ∧ Below w.heap.size w w' := by
 unfold order_Greatest.f at h
 by_cases h1 : a1 < 0
 ·rw [if_pos (.inl h1)] at h
  injection h with h
  subst h
  have d1 : decide (a1 < 0) = true := decide_eq_true h1
  clear h1 hr0
  go_enter Try.func59, Try.ntmps59
  go_wp2
  go_ret
  exact ⟨rfl, bA_ (bA_ (Below.refl _ _) _) _⟩
 have d1 : decide (a1 < 0) = false := decide_eq_false h1
 by_cases h2 : (l0.length : Int) ≤ a1
 ·rw [if_pos (.inr h2)] at h
  injection h with h
  subst h
  have d2 : decide ((l0.length : Int) ≤ a1) = true := decide_eq_true h2
  clear h1 h2 hr0
  go_enter Try.func59, Try.ntmps59
  go_wp2
  go_ret
  exact ⟨rfl, bA_ (bA_ (Below.refl _ _) _) _⟩
 have d2 : decide ((l0.length : Int) ≤ a1) = false := decide_eq_false h2
 rw [if_neg (fun h => h.elim h1 h2)] at h
 obtain ⟨i, rfl⟩ : ∃ i : Nat, a1 = (i : Int) := ⟨a1.toNat, by omega⟩
 have hi : i < l0.length := by omega
 rw [rd78_at l0 i hi] at h
 split at h
 ·rename_i hall
  injection h with h
  subst h
  rw [List.all_eq_true] at hall
  obtain ⟨w1, hw1⟩ : ∃ w1, w1 = (w.alloc (.cells #[.slice A0 l0.length c0] 68)).alloc (.cells #[.int .i64 (i : Int)] 3) := ⟨_, rfl⟩
  have hb1 : Below w.heap.size w w1 := by rw [hw1]; exact bA_ (bA_ (Below.refl _ _) _) _
  have hbc : w1.heap[w.heap.size]? = some (.cells #[.slice A0 l0.length c0] 68 (0, 0)) := by rw [hw1]; exact kA_ (heap_alloc_new _ _) _
  have hbi : w1.heap[w.heap.size + 1]? = some (.cells #[.int .i64 (i : Int)] 3 (0, 0)) := by
   have := heap_alloc_new (w.alloc (.cells #[.slice A0 l0.length c0] 68)) (.cells #[.int .i64 (i : Int)] 3)
   rw [World.size_alloc] at this
   rw [hw1]; exact this
  have hcf := ContainsFunc_L l0 A0 c0 hc0 88 #[.pointer (some ⟨w.heap.size, 0, none⟩), .pointer (some ⟨w.heap.size + 1, 0, none⟩)] (fun j => if h : j < l0.length then gr78 l0[j] l0[i] == some true else false) (l0.any fun x => gr78 x l0[i] == some true) w1 (Kd.C_below hr0 hb1) eg88 (fun j hj W hW A2 c2 A4 c4 g1 g2 g3 g4 => by
   rw [dif_pos hj]
   obtain ⟨b, hb⟩ := Option.isSome_iff_exists.1 (hall l0[j] (List.getElem_mem hj))
   have hbb : (gr78 l0[j] l0[i] == some true) = b := by rw [hb]; cases b <;> rfl
   rw [hbb]
   exact great88_calls w.heap.size (w.heap.size + 1) l0 i hi A0 c0 l0[j] A2 c2 A4 c4 b W (kB_ hbc hW) (kB_ hbi hW) (Kd.C_below (Kd.C_below hr0 hb1) hW) g1 g2 g3 g4 hb) (by
    rw [List.any_eq_true]
    constructor
    ·rintro ⟨x, hx, hg⟩
     obtain ⟨j, hj, rfl⟩ := List.getElem_of_mem hx
     exact ⟨j, hj, by rw [dif_pos hj]; exact hg⟩
    ·rintro ⟨j, hj, hg⟩
     rw [dif_pos hj] at hg
     exact ⟨l0[j], List.getElem_mem hj, hg⟩)
  obtain ⟨b, hb⟩ : ∃ b, b = l0.any fun x => gr78 x l0[i] == some true := ⟨_, rfl⟩
  rw [← hb] at hcf ⊢
  have HC := Az_.mk hcf
  have HW := Az_.mk hw1
  have HB := Az_.mk hb1
  clear hcf hw1 hb1 hbc hbi hall hr0 hb h1 h2
  go_enter Try.func59, Try.ntmps59
  go_wp2_with (go_at_call 87; rw [← HW.out]; refine HC.out.mono ?_; rintro z w2 ⟨rfl, hb⟩; have HB2 := Az_.mk hb; clear hb)
  go_ret
  exact ⟨rfl, HB.out.trans (HB2.out.mono HB.out.size)⟩
 ·cases h
end
section
attribute [local go_sem] max2_int min2_int max_two min_two yal_ yak_ max_four min_four
mutual
def order_Looked.l0 : Nat → List (S78) → Int → List (S78) → Int → Int → Option (List Int)
 | 0, _, _, _, _, _ => none
 | k + 1, x0, x3, x8, x9, x10 => if x10 < x9 then (if 0 ≤ x10 then (if x10 < (x8.length : Int) then (if (rd_T78 x8 x10).f0 = true then (if x3 < 0 then (order_Looked.l0 k x0 x10 x8 x9 (wrap64 (x10 + 1))) else ((order_weight.f ((rd_T78 x8 x10).f0) ((rd_T78 x8 x10).f1.f0) ((rd_T78 x8 x10).f1.f1) ((rd_T78 x8 x10).f2.f0) ((rd_T78 x8 x10).f2.f1)).bind fun t368 => (if 0 ≤ x3 then (if x3 < (x0.length : Int) then ((order_weight.f ((rd_T78 x0 x3).f0) ((rd_T78 x0 x3).f1.f0) ((rd_T78 x0 x3).f1.f1) ((rd_T78 x0 x3).f2.f0) ((rd_T78 x0 x3).f2.f1)).bind fun t370 => (if t368 > t370 then (order_Looked.l0 k x0 x10 x8 x9 (wrap64 (x10 + 1))) else (order_Looked.l0 k x0 x3 x8 x9 (wrap64 (x10 + 1))))) else (none)) else (none)))) else (order_Looked.l0 k x0 x3 x8 x9 (wrap64 (x10 + 1)))) else (none)) else (none)) else (if x3 ≥ 0 then (some (([x3] : List Int))) else (order_Looked.l1 k x0 ([] : List Int) (x0.length : Int) 0))
def order_Looked.l1 : Nat → List (S78) → List Int → Int → Int → Option (List Int)
 | 0, _, _, _, _ => none
 | k + 1, x0, x6, x38, x39 => if x39 < x38 then ((order_Greatest.f x0 x39).bind fun t374 => (if t374 = true then (if x6.length < 17592186044416 then (order_Looked.l1 k x0 (x6 ++ [x39]) x38 (wrap64 (x39 + 1))) else (none)) else (order_Looked.l1 k x0 x6 x38 (wrap64 (x39 + 1))))) else (some x6)
end
def order_Looked.f (k : Nat) (l0 : List (S78)) : Option (List Int) := order_Looked.l0 k l0 (-1) l0 (l0.length : Int) 0
def order_Looked.T5 : Bool × List (List Nat × List Nat) := (true, [([], []), ([0], [0]), ([1], [1]), ([2], [2]), ([3, 2], [2, 3]), ([4, 2, 2], [2, 4]), ([5], [5]), ([6, 5, 5], [5, 6]), ([5], [5]), ([5], [5]), ([8, 9, 5], [5, 8, 9]), ([10, 5], [5, 10]), ([11, 7, 5], [5, 11]), ([7, 12, 5], [5, 7, 12]), ([5, 13, 2], [2, 5, 13]), ([2, 14], [2, 14])])
def order_Looked.B5 : List Nat := [0, 1, 3, 7, 15, 31, 63, 127, 63, 63, 831, 1855, 4095, 8191, 16383, 32767]
theorem order_Looked.tab5 : rtab .any (opsOf Try.f58 5) = order_Looked.T5 := by kernel_rfl
theorem order_Looked.bits5 : waitsOk order_Looked.T5.2 order_Looked.B5 = true := by kernel_rfl
set_option maxHeartbeats 8000000 in
set_option maxRecDepth 100000 in
theorem order_Looked.calls (k : Nat) (A0 : Option Addr) (c0 : Nat) (l0 : List (S78)) (r : List Int) (w : World) (hr0 : Kd.C k78 w A0 l0.length l0) (hc0 : l0.length ≤ c0) (h : order_Looked.f k l0 = some r) :
  Calls Try.prog 58 #[.slice A0 l0.length c0] w fun e w' => ∃ v0_ : Value, e = .returned (v0_) ∧ Kd.R (Kd.int .i64) 3 w' w.heap.size (fun _ => True) v0_ r ∧ Below w.heap.size w w' := by
 have hu78 := Try.underlying78
 have HR0 := Az_.mk hr0
 have HC0 := Az_.mk hc0
 clear hr0 hc0
 have HB := Az_.mk (Below.refl w.heap.size w)
 have H : (order_Looked.l0 k l0 (-1) l0 (l0.length : Int) 0) = some r := h
 clear h
 have H' := Az_.mk H
 clear H
 go_enter Try.func58, Try.ntmps58
 go_wp2
 go_loopg [3, 10] k (fun kq v3 v10 w' => ∃ (x3_1 : Int) (x10_1 : Int), v3 = .int .i64 x3_1 ∧ v10 = .int .i64 x10_1 ∧ Az_ (order_Looked.l0 kq l0 x3_1 l0 (l0.length : Int) x10_1 = some r) ∧ Az_ (kq ≤ k) ∧ Az_ (Below w.heap.size w w'))
 case atStart => exact ⟨((-1)), (0), sq_, sq_, H', ⟨Nat.le_refl _⟩, ⟨bq_ HB⟩⟩
 case round =>
  clear H'
  obtain ⟨x3_1, x10_1, rfl, rfl, HA, HK1, HB⟩ := hrel
  cases gk with
  | zero => exact absurd HA.out (by simp [order_Looked.l0])
  | succ k1 =>
   have H := HA.out
   clear HA
   simp only [order_Looked.l0] at H
   by_cases c2 : x10_1 < (l0.length : Int)
   ·rw [if_pos c2] at H
    have c2b0 : decide (x10_1 < (l0.length : Int)) = true := decide_eq_true c2
    clear c2
    by_cases c3 : 0 ≤ x10_1
    ·rw [if_pos c3] at H
     have c3b0 : decide (0 ≤ x10_1) = true := decide_eq_true c3
     clear c3
     by_cases c4 : x10_1 < (l0.length : Int)
     ·rw [if_pos c4] at H
      have c4b0 : decide (x10_1 < (l0.length : Int)) = true := decide_eq_true c4
      clear c4
      obtain ⟨bq5, hbq5⟩ : ∃ b_ : Bool, b_ = ((rd_T78 l0 x10_1).f0) := ⟨_, rfl⟩
      replace H : (if bq5 = true then (if x3_1 < 0 then (order_Looked.l0 k1 l0 x10_1 l0 (l0.length : Int) (wrap64 (x10_1 + 1))) else ((order_weight.f (bq5) ((rd_T78 l0 x10_1).f1.f0) ((rd_T78 l0 x10_1).f1.f1) ((rd_T78 l0 x10_1).f2.f0) ((rd_T78 l0 x10_1).f2.f1)).bind fun t368 => (if 0 ≤ x3_1 then (if x3_1 < (l0.length : Int) then ((order_weight.f ((rd_T78 l0 x3_1).f0) ((rd_T78 l0 x3_1).f1.f0) ((rd_T78 l0 x3_1).f1.f1) ((rd_T78 l0 x3_1).f2.f0) ((rd_T78 l0 x3_1).f2.f1)).bind fun t370 => (if t368 > t370 then (order_Looked.l0 k1 l0 x10_1 l0 (l0.length : Int) (wrap64 (x10_1 + 1))) else (order_Looked.l0 k1 l0 x3_1 l0 (l0.length : Int) (wrap64 (x10_1 + 1))))) else (none)) else (none)))) else (order_Looked.l0 k1 l0 x3_1 l0 (l0.length : Int) (wrap64 (x10_1 + 1)))) = some r := by rw [← hbq5] at H; exact H
      have Nbq5 := Az_.mk hbq5
      clear hbq5
      by_cases c6 : bq5 = true
      ·subst c6
       have H1 : (if x3_1 < 0 then (order_Looked.l0 k1 l0 x10_1 l0 (l0.length : Int) (wrap64 (x10_1 + 1))) else ((order_weight.f (true) ((rd_T78 l0 x10_1).f1.f0) ((rd_T78 l0 x10_1).f1.f1) ((rd_T78 l0 x10_1).f2.f0) ((rd_T78 l0 x10_1).f2.f1)).bind fun t368 => (if 0 ≤ x3_1 then (if x3_1 < (l0.length : Int) then ((order_weight.f ((rd_T78 l0 x3_1).f0) ((rd_T78 l0 x3_1).f1.f0) ((rd_T78 l0 x3_1).f1.f1) ((rd_T78 l0 x3_1).f2.f0) ((rd_T78 l0 x3_1).f2.f1)).bind fun t370 => (if t368 > t370 then (order_Looked.l0 k1 l0 x10_1 l0 (l0.length : Int) (wrap64 (x10_1 + 1))) else (order_Looked.l0 k1 l0 x3_1 l0 (l0.length : Int) (wrap64 (x10_1 + 1))))) else (none)) else (none)))) = some r := by rw [if_pos rfl] at H; exact H
       clear H
       have H := H1
       clear H1
       by_cases c7 : x3_1 < 0
       ·rw [if_pos c7] at H
        have c7b0 : decide (x3_1 < 0) = true := decide_eq_true c7
        clear c7
        have H' := Az_.mk H
        clear H
        have p366 : 0 ≤ (x10_1 : Int) := of_decide_eq_true (by first | (with_reducible assumption) | assumption)
        have q366 : x10_1 < (l0.length : Int) := of_decide_eq_true (by first | (with_reducible assumption) | assumption)
        obtain ⟨ad366, A366_2, c366_2, A366_4, c366_4, e366, hx366_0, hx366_1, hx366_2, hx366_3, hx366_4, hl366_2, hi366_2, hl366_4, hi366_4⟩ := at_T78 HR0.out x10_1 p366 q366
        (try rw [← Nbq5.out] at hx366_0)
        cases e366
        replace hx366_0 := (HB.out.cell (World.block_lt_of_cell? w _ hx366_0)).trans hx366_0
        replace hx366_1 := (HB.out.cell (World.block_lt_of_cell? w _ hx366_1)).trans hx366_1
        replace hx366_2 := (HB.out.cell (World.block_lt_of_cell? w _ hx366_2)).trans hx366_2
        replace hx366_3 := (HB.out.cell (World.block_lt_of_cell? w _ hx366_3)).trans hx366_3
        replace hx366_4 := (HB.out.cell (World.block_lt_of_cell? w _ hx366_4)).trans hx366_4
        have HR366_2 := Az_.mk hi366_2
        have HC366_2 := Az_.mk hl366_2
        clear hi366_2 hl366_2
        have HR366_4 := Az_.mk hi366_4
        have HC366_4 := Az_.mk hl366_4
        clear hi366_4 hl366_4
        replace p366 := eq_true p366
        replace q366 := eq_true q366
        try go_wp2_with (first | ((with_reducible refine yag_ (N := 5) rfl ?_); refine yah_ ?hg (N := 5) ?hd (cs := #[.bool false, .int .i64 0, .slice none 0 0, .int .i64 0, .slice none 0 0]) (t := 78) ?hr ?_; (case hd => rfl); (case hg => rfl); (case hr => exact rq_); intro gb367 hg w8 hbox hb; have BK367 := Az_.mk (hbox); have GW367 := Az_.mk ((by rw [hg]; exact (bZ_ (bq_ HB)) : w.heap.size ≤ gb367)); have GE367 := Az_.mk ((by rw [hg]; exact (bZ_ (bq_ HB)) : w.heap.size ≤ gb367)); replace HB := Az_.mk (bT_ (bq_ HB) hb); clear hb hbox hg; obtain ⟨hcz9_0, hcz9_1, hcz9_2, hcz9_3, hcz9_4, hfz9_0, hfz9_1, hfz9_2, hfz9_3, hfz9_4⟩ := cz5_ BK367))
        have n0_ : Az_ ((((((w8.setCell ⟨gb367, 0, none⟩ (.bool true)).setCell ⟨gb367, 1, none⟩ (.int .i64 ((rd_T78 l0 x10_1).f1.f0))).setCell ⟨gb367, 2, none⟩ (.slice A366_2 ((rd_T78 l0 x10_1).f1.f1).length c366_2)).setCell ⟨gb367, 3, none⟩ (.int .i64 ((rd_T78 l0 x10_1).f2.f0))).setCell ⟨gb367, 4, none⟩ (.slice A366_4 ((rd_T78 l0 x10_1).f2.f1).length c366_4)).heap[gb367]? = some (.cells #[.bool true, .int .i64 ((rd_T78 l0 x10_1).f1.f0), .slice A366_2 ((rd_T78 l0 x10_1).f1.f1).length c366_2, .int .i64 ((rd_T78 l0 x10_1).f2.f0), .slice A366_4 ((rd_T78 l0 x10_1).f2.f1).length c366_4] 78 (0, 0))) := ⟨by (with_reducible repeat (first | refine kN_ ?_ _ | refine kD_ ?_ | refine kA_ ?_ _)); refine blk_put (cs := #[.bool true, .int .i64 ((rd_T78 l0 x10_1).f1.f0), .slice A366_2 ((rd_T78 l0 x10_1).f1.f1).length c366_2, .int .i64 ((rd_T78 l0 x10_1).f2.f0), .slice none 0 0]) ?_ 4 _ rfl; (with_reducible repeat (first | refine kN_ ?_ _ | refine kD_ ?_ | refine kA_ ?_ _)); refine blk_put (cs := #[.bool true, .int .i64 ((rd_T78 l0 x10_1).f1.f0), .slice A366_2 ((rd_T78 l0 x10_1).f1.f1).length c366_2, .int .i64 0, .slice none 0 0]) ?_ 3 _ rfl; (with_reducible repeat (first | refine kN_ ?_ _ | refine kD_ ?_ | refine kA_ ?_ _)); refine blk_put (cs := #[.bool true, .int .i64 ((rd_T78 l0 x10_1).f1.f0), .slice none 0 0, .int .i64 0, .slice none 0 0]) ?_ 2 _ rfl; (with_reducible repeat (first | refine kN_ ?_ _ | refine kD_ ?_ | refine kA_ ?_ _)); refine blk_put (cs := #[.bool true, .int .i64 0, .slice none 0 0, .int .i64 0, .slice none 0 0]) ?_ 1 _ rfl; (with_reducible repeat (first | refine kN_ ?_ _ | refine kD_ ?_ | refine kA_ ?_ _)); refine blk_put (cs := #[.bool false, .int .i64 0, .slice none 0 0, .int .i64 0, .slice none 0 0]) ?_ 0 _ rfl; (with_reducible repeat (first | refine kN_ ?_ _ | refine kD_ ?_ | refine kA_ ?_ _)); exact BK367.out⟩
        have n1_ : Az_ (Below w.heap.size w (((((w8.setCell ⟨gb367, 0, none⟩ (.bool true)).setCell ⟨gb367, 1, none⟩ (.int .i64 ((rd_T78 l0 x10_1).f1.f0))).setCell ⟨gb367, 2, none⟩ (.slice A366_2 ((rd_T78 l0 x10_1).f1.f1).length c366_2)).setCell ⟨gb367, 3, none⟩ (.int .i64 ((rd_T78 l0 x10_1).f2.f0))).setCell ⟨gb367, 4, none⟩ (.slice A366_4 ((rd_T78 l0 x10_1).f2.f1).length c366_4))) := ⟨bq1_ HB GE367⟩
        (try clear BK367)
        (try clear HB)
        generalize (((((w8.setCell ⟨gb367, 0, none⟩ (.bool true)).setCell ⟨gb367, 1, none⟩ (.int .i64 ((rd_T78 l0 x10_1).f1.f0))).setCell ⟨gb367, 2, none⟩ (.slice A366_2 ((rd_T78 l0 x10_1).f1.f1).length c366_2)).setCell ⟨gb367, 3, none⟩ (.int .i64 ((rd_T78 l0 x10_1).f2.f0))).setCell ⟨gb367, 4, none⟩ (.slice A366_4 ((rd_T78 l0 x10_1).f2.f1).length c366_4)) = w10 at n0_ n1_ ⊢
        have BK367 := n0_
        have HB := n1_
        clear n0_ n1_
        replace BK367 := Az_.mk (kD_ BK367.out)
        replace HB := Az_.mk (bD_ HB.out)
        refine start_ (n := 16) (S := fun w' => w'.cell? ⟨gb367, 0, none⟩ = some (.bool true) ∧ w'.cell? ⟨gb367, 1, none⟩ = some (.int .i64 ((rd_T78 l0 x10_1).f1.f0)) ∧ w'.cell? ⟨gb367, 2, none⟩ = some (.slice A366_2 ((rd_T78 l0 x10_1).f1.f1).length c366_2) ∧ w'.cell? ⟨gb367, 3, none⟩ = some (.int .i64 ((rd_T78 l0 x10_1).f2.f0)) ∧ w'.cell? ⟨gb367, 4, none⟩ = some (.slice A366_4 ((rd_T78 l0 x10_1).f2.f1).length c366_4)) (ds := []) #[false, false, false, false, false, false, false, false, false, false, false, false, false, false, false, false] (by kernel_rfl) rfl rfl ⟨(yaa_ BK367.out 0).trans rfl, (yaa_ BK367.out 1).trans rfl, (yaa_ BK367.out 2).trans rfl, (yaa_ BK367.out 3).trans rfl, (yaa_ BK367.out 4).trans rfl⟩ (fun hHeld => ?_); refine with_tabW order_Looked.tab5 order_Looked.bits5 (fun HT_ HW_ => ?_)
        generalize w10.drew = w11 at BK367 HB hHeld ⊢
        refine pa_ 0 15 HT_ ?_
        refine ta5_ 1 16 HT_ HW_ hHeld ?_
        refine pa_ 2 17 HT_ ?_
        refine pa_ 3 18 HT_ ?_
        refine pa_ 4 19 HT_ ?_
        refine pa_ 5 20 HT_ ?_
        refine pu_ 6 21 HT_ ?_
        refine pu_ 7 22 HT_ ?_
        refine pu_ 8 23 HT_ ?_
        refine pu_ 9 24 HT_ ?_
        refine pu_ 10 25 HT_ ?_
        refine pu_ 11 26 HT_ ?_
        refine pu_ 12 27 HT_ ?_
        refine pu_ 13 28 HT_ ?_
        refine pa_ 14 29 HT_ ?_
        refine pa_ 15 30 HT_ ?_
        refine done_ (done_of HT_.out (by kernel_rfl)) ?_
        try go_wp2
        go_roundg k1
        case measure => have := HK1.out; omega
        case rel => exact ⟨(x10_1), (wrap64 (x10_1 + 1)), sq_, sq_, H', ⟨by have := HK1.out; omega⟩, ⟨bq1_ HB GE367⟩⟩
       ·rw [if_neg c7] at H
        have c7b0 : decide (x3_1 < 0) = false := decide_eq_false c7
        clear c7
        replace H := Option.bind_eq_some_iff.mp H
        obtain ⟨t368, A120, H⟩ := H
        replace H : (if 0 ≤ x3_1 then (if x3_1 < (l0.length : Int) then ((order_weight.f ((rd_T78 l0 x3_1).f0) ((rd_T78 l0 x3_1).f1.f0) ((rd_T78 l0 x3_1).f1.f1) ((rd_T78 l0 x3_1).f2.f0) ((rd_T78 l0 x3_1).f2.f1)).bind fun t370 => (if t368 > t370 then (order_Looked.l0 k1 l0 x10_1 l0 (l0.length : Int) (wrap64 (x10_1 + 1))) else (order_Looked.l0 k1 l0 x3_1 l0 (l0.length : Int) (wrap64 (x10_1 + 1))))) else (none)) else (none)) = some r := H
        have A12 := Az_.mk A120
        clear A120
        by_cases c13 : 0 ≤ x3_1
        ·rw [if_pos c13] at H
         have c13b0 : decide (0 ≤ x3_1) = true := decide_eq_true c13
         clear c13
         by_cases c14 : x3_1 < (l0.length : Int)
         ·rw [if_pos c14] at H
          have c14b0 : decide (x3_1 < (l0.length : Int)) = true := decide_eq_true c14
          clear c14
          replace H := Option.bind_eq_some_iff.mp H
          obtain ⟨t370, A150, H⟩ := H
          replace H : (if t368 > t370 then (order_Looked.l0 k1 l0 x10_1 l0 (l0.length : Int) (wrap64 (x10_1 + 1))) else (order_Looked.l0 k1 l0 x3_1 l0 (l0.length : Int) (wrap64 (x10_1 + 1)))) = some r := H
          have A15 := Az_.mk A150
          clear A150
          by_cases c16 : t368 > t370
          ·rw [if_pos c16] at H
           have c16b0 : decide (t370 < t368) = true := decide_eq_true c16
           clear c16
           have H' := Az_.mk H
           clear H
           have p366 : 0 ≤ (x10_1 : Int) := of_decide_eq_true (by first | (with_reducible assumption) | assumption)
           have q366 : x10_1 < (l0.length : Int) := of_decide_eq_true (by first | (with_reducible assumption) | assumption)
           obtain ⟨ad366, A366_2, c366_2, A366_4, c366_4, e366, hx366_0, hx366_1, hx366_2, hx366_3, hx366_4, hl366_2, hi366_2, hl366_4, hi366_4⟩ := at_T78 HR0.out x10_1 p366 q366
           (try rw [← Nbq5.out] at hx366_0)
           cases e366
           replace hx366_0 := (HB.out.cell (World.block_lt_of_cell? w _ hx366_0)).trans hx366_0
           replace hx366_1 := (HB.out.cell (World.block_lt_of_cell? w _ hx366_1)).trans hx366_1
           replace hx366_2 := (HB.out.cell (World.block_lt_of_cell? w _ hx366_2)).trans hx366_2
           replace hx366_3 := (HB.out.cell (World.block_lt_of_cell? w _ hx366_3)).trans hx366_3
           replace hx366_4 := (HB.out.cell (World.block_lt_of_cell? w _ hx366_4)).trans hx366_4
           have HR366_2 := Az_.mk hi366_2
           have HC366_2 := Az_.mk hl366_2
           clear hi366_2 hl366_2
           have HR366_4 := Az_.mk hi366_4
           have HC366_4 := Az_.mk hl366_4
           clear hi366_4 hl366_4
           replace p366 := eq_true p366
           replace q366 := eq_true q366
           try go_wp2_with (first | ((with_reducible refine yag_ (N := 5) rfl ?_); refine yah_ ?hg (N := 5) ?hd (cs := #[.bool false, .int .i64 0, .slice none 0 0, .int .i64 0, .slice none 0 0]) (t := 78) ?hr ?_; (case hd => rfl); (case hg => rfl); (case hr => exact rq_); intro gb367 hg w17 hbox hb; have BK367 := Az_.mk (hbox); have GW367 := Az_.mk ((by rw [hg]; exact (bZ_ (bq_ HB)) : w.heap.size ≤ gb367)); have GE367 := Az_.mk ((by rw [hg]; exact (bZ_ (bq_ HB)) : w.heap.size ≤ gb367)); replace HB := Az_.mk (bT_ (bq_ HB) hb); clear hb hbox hg; obtain ⟨hcz18_0, hcz18_1, hcz18_2, hcz18_3, hcz18_4, hfz18_0, hfz18_1, hfz18_2, hfz18_3, hfz18_4⟩ := cz5_ BK367))
           have n0_ : Az_ ((((((w17.setCell ⟨gb367, 0, none⟩ (.bool true)).setCell ⟨gb367, 1, none⟩ (.int .i64 ((rd_T78 l0 x10_1).f1.f0))).setCell ⟨gb367, 2, none⟩ (.slice A366_2 ((rd_T78 l0 x10_1).f1.f1).length c366_2)).setCell ⟨gb367, 3, none⟩ (.int .i64 ((rd_T78 l0 x10_1).f2.f0))).setCell ⟨gb367, 4, none⟩ (.slice A366_4 ((rd_T78 l0 x10_1).f2.f1).length c366_4)).heap[gb367]? = some (.cells #[.bool true, .int .i64 ((rd_T78 l0 x10_1).f1.f0), .slice A366_2 ((rd_T78 l0 x10_1).f1.f1).length c366_2, .int .i64 ((rd_T78 l0 x10_1).f2.f0), .slice A366_4 ((rd_T78 l0 x10_1).f2.f1).length c366_4] 78 (0, 0))) := ⟨by (with_reducible repeat (first | refine kN_ ?_ _ | refine kD_ ?_ | refine kA_ ?_ _)); refine blk_put (cs := #[.bool true, .int .i64 ((rd_T78 l0 x10_1).f1.f0), .slice A366_2 ((rd_T78 l0 x10_1).f1.f1).length c366_2, .int .i64 ((rd_T78 l0 x10_1).f2.f0), .slice none 0 0]) ?_ 4 _ rfl; (with_reducible repeat (first | refine kN_ ?_ _ | refine kD_ ?_ | refine kA_ ?_ _)); refine blk_put (cs := #[.bool true, .int .i64 ((rd_T78 l0 x10_1).f1.f0), .slice A366_2 ((rd_T78 l0 x10_1).f1.f1).length c366_2, .int .i64 0, .slice none 0 0]) ?_ 3 _ rfl; (with_reducible repeat (first | refine kN_ ?_ _ | refine kD_ ?_ | refine kA_ ?_ _)); refine blk_put (cs := #[.bool true, .int .i64 ((rd_T78 l0 x10_1).f1.f0), .slice none 0 0, .int .i64 0, .slice none 0 0]) ?_ 2 _ rfl; (with_reducible repeat (first | refine kN_ ?_ _ | refine kD_ ?_ | refine kA_ ?_ _)); refine blk_put (cs := #[.bool true, .int .i64 0, .slice none 0 0, .int .i64 0, .slice none 0 0]) ?_ 1 _ rfl; (with_reducible repeat (first | refine kN_ ?_ _ | refine kD_ ?_ | refine kA_ ?_ _)); refine blk_put (cs := #[.bool false, .int .i64 0, .slice none 0 0, .int .i64 0, .slice none 0 0]) ?_ 0 _ rfl; (with_reducible repeat (first | refine kN_ ?_ _ | refine kD_ ?_ | refine kA_ ?_ _)); exact BK367.out⟩
           have n1_ : Az_ (Below w.heap.size w (((((w17.setCell ⟨gb367, 0, none⟩ (.bool true)).setCell ⟨gb367, 1, none⟩ (.int .i64 ((rd_T78 l0 x10_1).f1.f0))).setCell ⟨gb367, 2, none⟩ (.slice A366_2 ((rd_T78 l0 x10_1).f1.f1).length c366_2)).setCell ⟨gb367, 3, none⟩ (.int .i64 ((rd_T78 l0 x10_1).f2.f0))).setCell ⟨gb367, 4, none⟩ (.slice A366_4 ((rd_T78 l0 x10_1).f2.f1).length c366_4))) := ⟨bq1_ HB GE367⟩
           (try clear BK367)
           (try clear HB)
           generalize (((((w17.setCell ⟨gb367, 0, none⟩ (.bool true)).setCell ⟨gb367, 1, none⟩ (.int .i64 ((rd_T78 l0 x10_1).f1.f0))).setCell ⟨gb367, 2, none⟩ (.slice A366_2 ((rd_T78 l0 x10_1).f1.f1).length c366_2)).setCell ⟨gb367, 3, none⟩ (.int .i64 ((rd_T78 l0 x10_1).f2.f0))).setCell ⟨gb367, 4, none⟩ (.slice A366_4 ((rd_T78 l0 x10_1).f2.f1).length c366_4)) = w19 at n0_ n1_ ⊢
           have BK367 := n0_
           have HB := n1_
           clear n0_ n1_
           replace BK367 := Az_.mk (kD_ BK367.out)
           replace HB := Az_.mk (bD_ HB.out)
           have p369 : 0 ≤ (x3_1 : Int) := of_decide_eq_true (by first | (with_reducible assumption) | assumption)
           have q369 : x3_1 < (l0.length : Int) := of_decide_eq_true (by first | (with_reducible assumption) | assumption)
           obtain ⟨ad369, A369_2, c369_2, A369_4, c369_4, e369, hx369_0, hx369_1, hx369_2, hx369_3, hx369_4, hl369_2, hi369_2, hl369_4, hi369_4⟩ := at_T78 HR0.out x3_1 p369 q369
           have hw369_4 := hx369_4
           have hw369_3 := hx369_3
           have hw369_2 := hx369_2
           have hw369_1 := hx369_1
           have hw369_0 := hx369_0
           (try rw [← Nbq5.out] at hx369_0)
           obtain rfl : ad366 = ad369 := (by injection e369)
           replace hx369_0 := (HB.out.cell (World.block_lt_of_cell? w _ hx369_0)).trans hx369_0
           replace hx369_1 := (HB.out.cell (World.block_lt_of_cell? w _ hx369_1)).trans hx369_1
           replace hx369_2 := (HB.out.cell (World.block_lt_of_cell? w _ hx369_2)).trans hx369_2
           replace hx369_3 := (HB.out.cell (World.block_lt_of_cell? w _ hx369_3)).trans hx369_3
           replace hx369_4 := (HB.out.cell (World.block_lt_of_cell? w _ hx369_4)).trans hx369_4
           have HR369_2 := Az_.mk hi369_2
           have HC369_2 := Az_.mk hl369_2
           clear hi369_2 hl369_2
           have HR369_4 := Az_.mk hi369_4
           have HC369_4 := Az_.mk hl369_4
           clear hi369_4 hl369_4
           replace p369 := eq_true p369
           replace q369 := eq_true q369
           refine start_ (n := 16) (S := fun w' => w'.cell? ⟨gb367, 0, none⟩ = some (.bool true) ∧ w'.cell? ⟨gb367, 1, none⟩ = some (.int .i64 ((rd_T78 l0 x10_1).f1.f0)) ∧ w'.cell? ⟨gb367, 2, none⟩ = some (.slice A366_2 ((rd_T78 l0 x10_1).f1.f1).length c366_2) ∧ w'.cell? ⟨gb367, 3, none⟩ = some (.int .i64 ((rd_T78 l0 x10_1).f2.f0)) ∧ w'.cell? ⟨gb367, 4, none⟩ = some (.slice A366_4 ((rd_T78 l0 x10_1).f2.f1).length c366_4) ∧ w'.cell? (ad366.add ((x3_1).toNat * 5)) = some (.bool ((rd_T78 l0 x3_1).f0)) ∧ w'.cell? ⟨(ad366.add ((x3_1).toNat * 5)).block, (ad366.add ((x3_1).toNat * 5)).off + 1, none⟩ = some (.int .i64 ((rd_T78 l0 x3_1).f1.f0)) ∧ w'.cell? ⟨(ad366.add ((x3_1).toNat * 5)).block, (ad366.add ((x3_1).toNat * 5)).off + 2, none⟩ = some (.slice A369_2 ((rd_T78 l0 x3_1).f1.f1).length c369_2) ∧ w'.cell? ⟨(ad366.add ((x3_1).toNat * 5)).block, (ad366.add ((x3_1).toNat * 5)).off + 3, none⟩ = some (.int .i64 ((rd_T78 l0 x3_1).f2.f0)) ∧ w'.cell? ⟨(ad366.add ((x3_1).toNat * 5)).block, (ad366.add ((x3_1).toNat * 5)).off + 4, none⟩ = some (.slice A369_4 ((rd_T78 l0 x3_1).f2.f1).length c369_4)) (ds := []) #[false, false, false, false, false, false, false, false, false, false, false, false, false, false, false, false] (by kernel_rfl) rfl rfl ⟨(yaa_ BK367.out 0).trans rfl, (yaa_ BK367.out 1).trans rfl, (yaa_ BK367.out 2).trans rfl, (yaa_ BK367.out 3).trans rfl, (yaa_ BK367.out 4).trans rfl, ((HB.out.cell (World.block_lt_of_cell? w _ hw369_0)).trans hw369_0), ((HB.out.cell (World.block_lt_of_cell? w _ hw369_1)).trans hw369_1), ((HB.out.cell (World.block_lt_of_cell? w _ hw369_2)).trans hw369_2), ((HB.out.cell (World.block_lt_of_cell? w _ hw369_3)).trans hw369_3), ((HB.out.cell (World.block_lt_of_cell? w _ hw369_4)).trans hw369_4)⟩ (fun hHeld => ?_); refine with_tabW order_Looked.tab5 order_Looked.bits5 (fun HT_ HW_ => ?_)
           generalize w19.drew = w20 at BK367 HB HR369_2 HR369_4 hx369_0 hx369_1 hx369_2 hx369_3 hx369_4 hHeld ⊢
           refine pa_ 0 15 HT_ ?_
           refine ta10_ 1 16 HT_ HW_ hHeld ?_
           refine pa_ 2 17 HT_ ?_
           refine pa_ 3 18 HT_ ?_
           refine pa_ 4 19 HT_ ?_
           refine pa_ 5 20 HT_ ?_
           refine pa_ 8 23 HT_ ?_
           refine pa_ 9 24 HT_ ?_
           refine pa_ 10 25 HT_ ?_
           refine ta10_ 6 21 HT_ HW_ hHeld ?_
           refine ta10_ 11 26 HT_ HW_ hHeld ?_
           refine one_ (i := 7) (N := some 22) #[true, true, true, true, true, true, true, true, true, true, true, true, false, false, false, false] rfl rfl (one_of HT_.out (by kernel_rfl)) (by decide) (fun K hK => ?_)
           refine goes_ Try.func86 (by kernel_rfl) rfl #[.agg #[.bool true, .int .i64 ((rd_T78 l0 x10_1).f1.f0), .slice A366_2 ((rd_T78 l0 x10_1).f1.f1).length c366_2, .int .i64 ((rd_T78 l0 x10_1).f2.f0), .slice A366_4 ((rd_T78 l0 x10_1).f2.f1).length c366_4]] (by rfl) rfl rfl mq_ ?_
           with_reducible refine (order_weight.calls true ((rd_T78 l0 x10_1).f1.f0) _ _ ((rd_T78 l0 x10_1).f1.f1) ((rd_T78 l0 x10_1).f2.f0) _ _ ((rd_T78 l0 x10_1).f2.f1) t368 _ ?side1 ?side2 ?side3 ?side4 A12.out).mono ?_
           (case side1 => exact cq_ (Kd.C_below HR366_2.out HB.out))
           (case side2 => exact HC366_2.out)
           (case side3 => exact cq_ (Kd.C_below HR366_4.out HB.out))
           (case side4 => exact HC366_4.out)
           rintro e w21 ⟨rfl, hb⟩
           refine ⟨_, rfl, ?_⟩
           replace BK367 := kb_ BK367 hb
           replace HB := Az_.mk (bT_ (bq1_ HB GE367) hb)
           (try clear hb)
           (try clear hb2)
           (try clear hk)
           (try clear hi)
           refine hK.out _ _ ⟨(yaa_ BK367.out 0).trans rfl, (yaa_ BK367.out 1).trans rfl, (yaa_ BK367.out 2).trans rfl, (yaa_ BK367.out 3).trans rfl, (yaa_ BK367.out 4).trans rfl, ((HB.out.cell (World.block_lt_of_cell? w _ hw369_0)).trans hw369_0), ((HB.out.cell (World.block_lt_of_cell? w _ hw369_1)).trans hw369_1), ((HB.out.cell (World.block_lt_of_cell? w _ hw369_2)).trans hw369_2), ((HB.out.cell (World.block_lt_of_cell? w _ hw369_3)).trans hw369_3), ((HB.out.cell (World.block_lt_of_cell? w _ hw369_4)).trans hw369_4)⟩ (fun hHeld => ?_)
           clear hK K
           refine norm_ (a' := ?_) ?_ ?_
           rotate_left
           ·show Act.put _ (some 22) _ = _
            simp only [Act.put, sA_, sZ_, sS_, i64_w, i32_w]
            rfl
           refine one_ (i := 12) (N := some 27) #[true, true, true, true, true, true, true, true, true, true, true, true, true, false, false, false] rfl rfl (one_of HT_.out (by kernel_rfl)) (by decide) (fun K hK => ?_)
           refine goes_ Try.func86 (by kernel_rfl) rfl #[.agg #[.bool ((rd_T78 l0 x3_1).f0), .int .i64 ((rd_T78 l0 x3_1).f1.f0), .slice A369_2 ((rd_T78 l0 x3_1).f1.f1).length c369_2, .int .i64 ((rd_T78 l0 x3_1).f2.f0), .slice A369_4 ((rd_T78 l0 x3_1).f2.f1).length c369_4]] (by rfl) rfl rfl mq_ ?_
           with_reducible refine (order_weight.calls ((rd_T78 l0 x3_1).f0) ((rd_T78 l0 x3_1).f1.f0) _ _ ((rd_T78 l0 x3_1).f1.f1) ((rd_T78 l0 x3_1).f2.f0) _ _ ((rd_T78 l0 x3_1).f2.f1) t370 _ ?side1 ?side2 ?side3 ?side4 A15.out).mono ?_
           (case side1 => exact cq_ (Kd.C_below HR369_2.out HB.out))
           (case side2 => exact HC369_2.out)
           (case side3 => exact cq_ (Kd.C_below HR369_4.out HB.out))
           (case side4 => exact HC369_4.out)
           rintro e w22 ⟨rfl, hb⟩
           refine ⟨_, rfl, ?_⟩
           replace BK367 := kb_ BK367 hb
           replace HB := Az_.mk (bT_ (bq1_ HB GE367) hb)
           (try clear hb)
           (try clear hb2)
           (try clear hk)
           (try clear hi)
           refine hK.out _ _ ⟨(yaa_ BK367.out 0).trans rfl, (yaa_ BK367.out 1).trans rfl, (yaa_ BK367.out 2).trans rfl, (yaa_ BK367.out 3).trans rfl, (yaa_ BK367.out 4).trans rfl, ((HB.out.cell (World.block_lt_of_cell? w _ hw369_0)).trans hw369_0), ((HB.out.cell (World.block_lt_of_cell? w _ hw369_1)).trans hw369_1), ((HB.out.cell (World.block_lt_of_cell? w _ hw369_2)).trans hw369_2), ((HB.out.cell (World.block_lt_of_cell? w _ hw369_3)).trans hw369_3), ((HB.out.cell (World.block_lt_of_cell? w _ hw369_4)).trans hw369_4)⟩ (fun hHeld => ?_)
           clear hK K
           refine norm_ (a' := ?_) ?_ ?_
           rotate_left
           ·show Act.put _ (some 27) _ = _
            simp only [Act.put, sA_, sZ_, sS_, i64_w, i32_w]
            rfl
           refine pa_ 13 28 HT_ ?_
           refine pa_ 14 29 HT_ ?_
           refine pa_ 15 30 HT_ ?_
           refine done_ (done_of HT_.out (by kernel_rfl)) ?_
           try go_wp2
           go_roundg k1
           case measure => have := HK1.out; omega
           case rel => exact ⟨(x10_1), (wrap64 (x10_1 + 1)), sq_, sq_, H', ⟨by have := HK1.out; omega⟩, ⟨bq1_ HB GE367⟩⟩
          ·rw [if_neg c16] at H
           have c16b0 : decide (t370 < t368) = false := decide_eq_false c16
           clear c16
           have H' := Az_.mk H
           clear H
           have p366 : 0 ≤ (x10_1 : Int) := of_decide_eq_true (by first | (with_reducible assumption) | assumption)
           have q366 : x10_1 < (l0.length : Int) := of_decide_eq_true (by first | (with_reducible assumption) | assumption)
           obtain ⟨ad366, A366_2, c366_2, A366_4, c366_4, e366, hx366_0, hx366_1, hx366_2, hx366_3, hx366_4, hl366_2, hi366_2, hl366_4, hi366_4⟩ := at_T78 HR0.out x10_1 p366 q366
           (try rw [← Nbq5.out] at hx366_0)
           cases e366
           replace hx366_0 := (HB.out.cell (World.block_lt_of_cell? w _ hx366_0)).trans hx366_0
           replace hx366_1 := (HB.out.cell (World.block_lt_of_cell? w _ hx366_1)).trans hx366_1
           replace hx366_2 := (HB.out.cell (World.block_lt_of_cell? w _ hx366_2)).trans hx366_2
           replace hx366_3 := (HB.out.cell (World.block_lt_of_cell? w _ hx366_3)).trans hx366_3
           replace hx366_4 := (HB.out.cell (World.block_lt_of_cell? w _ hx366_4)).trans hx366_4
           have HR366_2 := Az_.mk hi366_2
           have HC366_2 := Az_.mk hl366_2
           clear hi366_2 hl366_2
           have HR366_4 := Az_.mk hi366_4
           have HC366_4 := Az_.mk hl366_4
           clear hi366_4 hl366_4
           replace p366 := eq_true p366
           replace q366 := eq_true q366
           try go_wp2_with (first | ((with_reducible refine yag_ (N := 5) rfl ?_); refine yah_ ?hg (N := 5) ?hd (cs := #[.bool false, .int .i64 0, .slice none 0 0, .int .i64 0, .slice none 0 0]) (t := 78) ?hr ?_; (case hd => rfl); (case hg => rfl); (case hr => exact rq_); intro gb367 hg w23 hbox hb; have BK367 := Az_.mk (hbox); have GW367 := Az_.mk ((by rw [hg]; exact (bZ_ (bq_ HB)) : w.heap.size ≤ gb367)); have GE367 := Az_.mk ((by rw [hg]; exact (bZ_ (bq_ HB)) : w.heap.size ≤ gb367)); replace HB := Az_.mk (bT_ (bq_ HB) hb); clear hb hbox hg; obtain ⟨hcz24_0, hcz24_1, hcz24_2, hcz24_3, hcz24_4, hfz24_0, hfz24_1, hfz24_2, hfz24_3, hfz24_4⟩ := cz5_ BK367))
           have n0_ : Az_ ((((((w23.setCell ⟨gb367, 0, none⟩ (.bool true)).setCell ⟨gb367, 1, none⟩ (.int .i64 ((rd_T78 l0 x10_1).f1.f0))).setCell ⟨gb367, 2, none⟩ (.slice A366_2 ((rd_T78 l0 x10_1).f1.f1).length c366_2)).setCell ⟨gb367, 3, none⟩ (.int .i64 ((rd_T78 l0 x10_1).f2.f0))).setCell ⟨gb367, 4, none⟩ (.slice A366_4 ((rd_T78 l0 x10_1).f2.f1).length c366_4)).heap[gb367]? = some (.cells #[.bool true, .int .i64 ((rd_T78 l0 x10_1).f1.f0), .slice A366_2 ((rd_T78 l0 x10_1).f1.f1).length c366_2, .int .i64 ((rd_T78 l0 x10_1).f2.f0), .slice A366_4 ((rd_T78 l0 x10_1).f2.f1).length c366_4] 78 (0, 0))) := ⟨by (with_reducible repeat (first | refine kN_ ?_ _ | refine kD_ ?_ | refine kA_ ?_ _)); refine blk_put (cs := #[.bool true, .int .i64 ((rd_T78 l0 x10_1).f1.f0), .slice A366_2 ((rd_T78 l0 x10_1).f1.f1).length c366_2, .int .i64 ((rd_T78 l0 x10_1).f2.f0), .slice none 0 0]) ?_ 4 _ rfl; (with_reducible repeat (first | refine kN_ ?_ _ | refine kD_ ?_ | refine kA_ ?_ _)); refine blk_put (cs := #[.bool true, .int .i64 ((rd_T78 l0 x10_1).f1.f0), .slice A366_2 ((rd_T78 l0 x10_1).f1.f1).length c366_2, .int .i64 0, .slice none 0 0]) ?_ 3 _ rfl; (with_reducible repeat (first | refine kN_ ?_ _ | refine kD_ ?_ | refine kA_ ?_ _)); refine blk_put (cs := #[.bool true, .int .i64 ((rd_T78 l0 x10_1).f1.f0), .slice none 0 0, .int .i64 0, .slice none 0 0]) ?_ 2 _ rfl; (with_reducible repeat (first | refine kN_ ?_ _ | refine kD_ ?_ | refine kA_ ?_ _)); refine blk_put (cs := #[.bool true, .int .i64 0, .slice none 0 0, .int .i64 0, .slice none 0 0]) ?_ 1 _ rfl; (with_reducible repeat (first | refine kN_ ?_ _ | refine kD_ ?_ | refine kA_ ?_ _)); refine blk_put (cs := #[.bool false, .int .i64 0, .slice none 0 0, .int .i64 0, .slice none 0 0]) ?_ 0 _ rfl; (with_reducible repeat (first | refine kN_ ?_ _ | refine kD_ ?_ | refine kA_ ?_ _)); exact BK367.out⟩
           have n1_ : Az_ (Below w.heap.size w (((((w23.setCell ⟨gb367, 0, none⟩ (.bool true)).setCell ⟨gb367, 1, none⟩ (.int .i64 ((rd_T78 l0 x10_1).f1.f0))).setCell ⟨gb367, 2, none⟩ (.slice A366_2 ((rd_T78 l0 x10_1).f1.f1).length c366_2)).setCell ⟨gb367, 3, none⟩ (.int .i64 ((rd_T78 l0 x10_1).f2.f0))).setCell ⟨gb367, 4, none⟩ (.slice A366_4 ((rd_T78 l0 x10_1).f2.f1).length c366_4))) := ⟨bq1_ HB GE367⟩
           (try clear BK367)
           (try clear HB)
           generalize (((((w23.setCell ⟨gb367, 0, none⟩ (.bool true)).setCell ⟨gb367, 1, none⟩ (.int .i64 ((rd_T78 l0 x10_1).f1.f0))).setCell ⟨gb367, 2, none⟩ (.slice A366_2 ((rd_T78 l0 x10_1).f1.f1).length c366_2)).setCell ⟨gb367, 3, none⟩ (.int .i64 ((rd_T78 l0 x10_1).f2.f0))).setCell ⟨gb367, 4, none⟩ (.slice A366_4 ((rd_T78 l0 x10_1).f2.f1).length c366_4)) = w25 at n0_ n1_ ⊢
           have BK367 := n0_
           have HB := n1_
           clear n0_ n1_
           replace BK367 := Az_.mk (kD_ BK367.out)
           replace HB := Az_.mk (bD_ HB.out)
           have p369 : 0 ≤ (x3_1 : Int) := of_decide_eq_true (by first | (with_reducible assumption) | assumption)
           have q369 : x3_1 < (l0.length : Int) := of_decide_eq_true (by first | (with_reducible assumption) | assumption)
           obtain ⟨ad369, A369_2, c369_2, A369_4, c369_4, e369, hx369_0, hx369_1, hx369_2, hx369_3, hx369_4, hl369_2, hi369_2, hl369_4, hi369_4⟩ := at_T78 HR0.out x3_1 p369 q369
           have hw369_4 := hx369_4
           have hw369_3 := hx369_3
           have hw369_2 := hx369_2
           have hw369_1 := hx369_1
           have hw369_0 := hx369_0
           (try rw [← Nbq5.out] at hx369_0)
           obtain rfl : ad366 = ad369 := (by injection e369)
           replace hx369_0 := (HB.out.cell (World.block_lt_of_cell? w _ hx369_0)).trans hx369_0
           replace hx369_1 := (HB.out.cell (World.block_lt_of_cell? w _ hx369_1)).trans hx369_1
           replace hx369_2 := (HB.out.cell (World.block_lt_of_cell? w _ hx369_2)).trans hx369_2
           replace hx369_3 := (HB.out.cell (World.block_lt_of_cell? w _ hx369_3)).trans hx369_3
           replace hx369_4 := (HB.out.cell (World.block_lt_of_cell? w _ hx369_4)).trans hx369_4
           have HR369_2 := Az_.mk hi369_2
           have HC369_2 := Az_.mk hl369_2
           clear hi369_2 hl369_2
           have HR369_4 := Az_.mk hi369_4
           have HC369_4 := Az_.mk hl369_4
           clear hi369_4 hl369_4
           replace p369 := eq_true p369
           replace q369 := eq_true q369
           refine start_ (n := 16) (S := fun w' => w'.cell? ⟨gb367, 0, none⟩ = some (.bool true) ∧ w'.cell? ⟨gb367, 1, none⟩ = some (.int .i64 ((rd_T78 l0 x10_1).f1.f0)) ∧ w'.cell? ⟨gb367, 2, none⟩ = some (.slice A366_2 ((rd_T78 l0 x10_1).f1.f1).length c366_2) ∧ w'.cell? ⟨gb367, 3, none⟩ = some (.int .i64 ((rd_T78 l0 x10_1).f2.f0)) ∧ w'.cell? ⟨gb367, 4, none⟩ = some (.slice A366_4 ((rd_T78 l0 x10_1).f2.f1).length c366_4) ∧ w'.cell? (ad366.add ((x3_1).toNat * 5)) = some (.bool ((rd_T78 l0 x3_1).f0)) ∧ w'.cell? ⟨(ad366.add ((x3_1).toNat * 5)).block, (ad366.add ((x3_1).toNat * 5)).off + 1, none⟩ = some (.int .i64 ((rd_T78 l0 x3_1).f1.f0)) ∧ w'.cell? ⟨(ad366.add ((x3_1).toNat * 5)).block, (ad366.add ((x3_1).toNat * 5)).off + 2, none⟩ = some (.slice A369_2 ((rd_T78 l0 x3_1).f1.f1).length c369_2) ∧ w'.cell? ⟨(ad366.add ((x3_1).toNat * 5)).block, (ad366.add ((x3_1).toNat * 5)).off + 3, none⟩ = some (.int .i64 ((rd_T78 l0 x3_1).f2.f0)) ∧ w'.cell? ⟨(ad366.add ((x3_1).toNat * 5)).block, (ad366.add ((x3_1).toNat * 5)).off + 4, none⟩ = some (.slice A369_4 ((rd_T78 l0 x3_1).f2.f1).length c369_4)) (ds := []) #[false, false, false, false, false, false, false, false, false, false, false, false, false, false, false, false] (by kernel_rfl) rfl rfl ⟨(yaa_ BK367.out 0).trans rfl, (yaa_ BK367.out 1).trans rfl, (yaa_ BK367.out 2).trans rfl, (yaa_ BK367.out 3).trans rfl, (yaa_ BK367.out 4).trans rfl, ((HB.out.cell (World.block_lt_of_cell? w _ hw369_0)).trans hw369_0), ((HB.out.cell (World.block_lt_of_cell? w _ hw369_1)).trans hw369_1), ((HB.out.cell (World.block_lt_of_cell? w _ hw369_2)).trans hw369_2), ((HB.out.cell (World.block_lt_of_cell? w _ hw369_3)).trans hw369_3), ((HB.out.cell (World.block_lt_of_cell? w _ hw369_4)).trans hw369_4)⟩ (fun hHeld => ?_); refine with_tabW order_Looked.tab5 order_Looked.bits5 (fun HT_ HW_ => ?_)
           generalize w25.drew = w26 at BK367 HB HR369_2 HR369_4 hx369_0 hx369_1 hx369_2 hx369_3 hx369_4 hHeld ⊢
           refine pa_ 0 15 HT_ ?_
           refine ta10_ 1 16 HT_ HW_ hHeld ?_
           refine pa_ 2 17 HT_ ?_
           refine pa_ 3 18 HT_ ?_
           refine pa_ 4 19 HT_ ?_
           refine pa_ 5 20 HT_ ?_
           refine pa_ 8 23 HT_ ?_
           refine pa_ 9 24 HT_ ?_
           refine pa_ 10 25 HT_ ?_
           refine ta10_ 6 21 HT_ HW_ hHeld ?_
           refine ta10_ 11 26 HT_ HW_ hHeld ?_
           refine one_ (i := 7) (N := some 22) #[true, true, true, true, true, true, true, true, true, true, true, true, false, false, false, false] rfl rfl (one_of HT_.out (by kernel_rfl)) (by decide) (fun K hK => ?_)
           refine goes_ Try.func86 (by kernel_rfl) rfl #[.agg #[.bool true, .int .i64 ((rd_T78 l0 x10_1).f1.f0), .slice A366_2 ((rd_T78 l0 x10_1).f1.f1).length c366_2, .int .i64 ((rd_T78 l0 x10_1).f2.f0), .slice A366_4 ((rd_T78 l0 x10_1).f2.f1).length c366_4]] (by rfl) rfl rfl mq_ ?_
           with_reducible refine (order_weight.calls true ((rd_T78 l0 x10_1).f1.f0) _ _ ((rd_T78 l0 x10_1).f1.f1) ((rd_T78 l0 x10_1).f2.f0) _ _ ((rd_T78 l0 x10_1).f2.f1) t368 _ ?side1 ?side2 ?side3 ?side4 A12.out).mono ?_
           (case side1 => exact cq_ (Kd.C_below HR366_2.out HB.out))
           (case side2 => exact HC366_2.out)
           (case side3 => exact cq_ (Kd.C_below HR366_4.out HB.out))
           (case side4 => exact HC366_4.out)
           rintro e w27 ⟨rfl, hb⟩
           refine ⟨_, rfl, ?_⟩
           replace BK367 := kb_ BK367 hb
           replace HB := Az_.mk (bT_ (bq1_ HB GE367) hb)
           (try clear hb)
           (try clear hb2)
           (try clear hk)
           (try clear hi)
           refine hK.out _ _ ⟨(yaa_ BK367.out 0).trans rfl, (yaa_ BK367.out 1).trans rfl, (yaa_ BK367.out 2).trans rfl, (yaa_ BK367.out 3).trans rfl, (yaa_ BK367.out 4).trans rfl, ((HB.out.cell (World.block_lt_of_cell? w _ hw369_0)).trans hw369_0), ((HB.out.cell (World.block_lt_of_cell? w _ hw369_1)).trans hw369_1), ((HB.out.cell (World.block_lt_of_cell? w _ hw369_2)).trans hw369_2), ((HB.out.cell (World.block_lt_of_cell? w _ hw369_3)).trans hw369_3), ((HB.out.cell (World.block_lt_of_cell? w _ hw369_4)).trans hw369_4)⟩ (fun hHeld => ?_)
           clear hK K
           refine norm_ (a' := ?_) ?_ ?_
           rotate_left
           ·show Act.put _ (some 22) _ = _
            simp only [Act.put, sA_, sZ_, sS_, i64_w, i32_w]
            rfl
           refine one_ (i := 12) (N := some 27) #[true, true, true, true, true, true, true, true, true, true, true, true, true, false, false, false] rfl rfl (one_of HT_.out (by kernel_rfl)) (by decide) (fun K hK => ?_)
           refine goes_ Try.func86 (by kernel_rfl) rfl #[.agg #[.bool ((rd_T78 l0 x3_1).f0), .int .i64 ((rd_T78 l0 x3_1).f1.f0), .slice A369_2 ((rd_T78 l0 x3_1).f1.f1).length c369_2, .int .i64 ((rd_T78 l0 x3_1).f2.f0), .slice A369_4 ((rd_T78 l0 x3_1).f2.f1).length c369_4]] (by rfl) rfl rfl mq_ ?_
           with_reducible refine (order_weight.calls ((rd_T78 l0 x3_1).f0) ((rd_T78 l0 x3_1).f1.f0) _ _ ((rd_T78 l0 x3_1).f1.f1) ((rd_T78 l0 x3_1).f2.f0) _ _ ((rd_T78 l0 x3_1).f2.f1) t370 _ ?side1 ?side2 ?side3 ?side4 A15.out).mono ?_
           (case side1 => exact cq_ (Kd.C_below HR369_2.out HB.out))
           (case side2 => exact HC369_2.out)
           (case side3 => exact cq_ (Kd.C_below HR369_4.out HB.out))
           (case side4 => exact HC369_4.out)
           rintro e w28 ⟨rfl, hb⟩
           refine ⟨_, rfl, ?_⟩
           replace BK367 := kb_ BK367 hb
           replace HB := Az_.mk (bT_ (bq1_ HB GE367) hb)
           (try clear hb)
           (try clear hb2)
           (try clear hk)
           (try clear hi)
           refine hK.out _ _ ⟨(yaa_ BK367.out 0).trans rfl, (yaa_ BK367.out 1).trans rfl, (yaa_ BK367.out 2).trans rfl, (yaa_ BK367.out 3).trans rfl, (yaa_ BK367.out 4).trans rfl, ((HB.out.cell (World.block_lt_of_cell? w _ hw369_0)).trans hw369_0), ((HB.out.cell (World.block_lt_of_cell? w _ hw369_1)).trans hw369_1), ((HB.out.cell (World.block_lt_of_cell? w _ hw369_2)).trans hw369_2), ((HB.out.cell (World.block_lt_of_cell? w _ hw369_3)).trans hw369_3), ((HB.out.cell (World.block_lt_of_cell? w _ hw369_4)).trans hw369_4)⟩ (fun hHeld => ?_)
           clear hK K
           refine norm_ (a' := ?_) ?_ ?_
           rotate_left
           ·show Act.put _ (some 27) _ = _
            simp only [Act.put, sA_, sZ_, sS_, i64_w, i32_w]
            rfl
           refine pa_ 13 28 HT_ ?_
           refine pa_ 14 29 HT_ ?_
           refine pa_ 15 30 HT_ ?_
           refine done_ (done_of HT_.out (by kernel_rfl)) ?_
           try go_wp2
           go_roundg k1
           case measure => have := HK1.out; omega
           case rel => exact ⟨(x3_1), (wrap64 (x10_1 + 1)), sq_, sq_, H', ⟨by have := HK1.out; omega⟩, ⟨bq1_ HB GE367⟩⟩
         ·rw [if_neg c14] at H
          exact absurd H (by simp)
        ·rw [if_neg c13] at H
         exact absurd H (by simp)
      ·replace c6 := Bool.eq_false_iff.mpr c6
       subst c6
       have H1 : (order_Looked.l0 k1 l0 x3_1 l0 (l0.length : Int) (wrap64 (x10_1 + 1))) = some r := by rw [if_neg (show ¬ (false = true) by decide)] at H; exact H
       clear H
       have H := H1
       clear H1
       have H' := Az_.mk H
       clear H
       have p366 : 0 ≤ (x10_1 : Int) := of_decide_eq_true (by first | (with_reducible assumption) | assumption)
       have q366 : x10_1 < (l0.length : Int) := of_decide_eq_true (by first | (with_reducible assumption) | assumption)
       obtain ⟨ad366, A366_2, c366_2, A366_4, c366_4, e366, hx366_0, hx366_1, hx366_2, hx366_3, hx366_4, hl366_2, hi366_2, hl366_4, hi366_4⟩ := at_T78 HR0.out x10_1 p366 q366
       (try rw [← Nbq5.out] at hx366_0)
       cases e366
       replace hx366_0 := (HB.out.cell (World.block_lt_of_cell? w _ hx366_0)).trans hx366_0
       replace hx366_1 := (HB.out.cell (World.block_lt_of_cell? w _ hx366_1)).trans hx366_1
       replace hx366_2 := (HB.out.cell (World.block_lt_of_cell? w _ hx366_2)).trans hx366_2
       replace hx366_3 := (HB.out.cell (World.block_lt_of_cell? w _ hx366_3)).trans hx366_3
       replace hx366_4 := (HB.out.cell (World.block_lt_of_cell? w _ hx366_4)).trans hx366_4
       have HR366_2 := Az_.mk hi366_2
       have HC366_2 := Az_.mk hl366_2
       clear hi366_2 hl366_2
       have HR366_4 := Az_.mk hi366_4
       have HC366_4 := Az_.mk hl366_4
       clear hi366_4 hl366_4
       replace p366 := eq_true p366
       replace q366 := eq_true q366
       try go_wp2_with (first | ((with_reducible refine yag_ (N := 5) rfl ?_); refine yah_ ?hg (N := 5) ?hd (cs := #[.bool false, .int .i64 0, .slice none 0 0, .int .i64 0, .slice none 0 0]) (t := 78) ?hr ?_; (case hd => rfl); (case hg => rfl); (case hr => exact rq_); intro gb367 hg w29 hbox hb; have BK367 := Az_.mk (hbox); have GW367 := Az_.mk ((by rw [hg]; exact (bZ_ (bq_ HB)) : w.heap.size ≤ gb367)); have GE367 := Az_.mk ((by rw [hg]; exact (bZ_ (bq_ HB)) : w.heap.size ≤ gb367)); replace HB := Az_.mk (bT_ (bq_ HB) hb); clear hb hbox hg; obtain ⟨hcz30_0, hcz30_1, hcz30_2, hcz30_3, hcz30_4, hfz30_0, hfz30_1, hfz30_2, hfz30_3, hfz30_4⟩ := cz5_ BK367))
       have n0_ : Az_ ((((((w29.setCell ⟨gb367, 0, none⟩ (.bool false)).setCell ⟨gb367, 1, none⟩ (.int .i64 ((rd_T78 l0 x10_1).f1.f0))).setCell ⟨gb367, 2, none⟩ (.slice A366_2 ((rd_T78 l0 x10_1).f1.f1).length c366_2)).setCell ⟨gb367, 3, none⟩ (.int .i64 ((rd_T78 l0 x10_1).f2.f0))).setCell ⟨gb367, 4, none⟩ (.slice A366_4 ((rd_T78 l0 x10_1).f2.f1).length c366_4)).heap[gb367]? = some (.cells #[.bool false, .int .i64 ((rd_T78 l0 x10_1).f1.f0), .slice A366_2 ((rd_T78 l0 x10_1).f1.f1).length c366_2, .int .i64 ((rd_T78 l0 x10_1).f2.f0), .slice A366_4 ((rd_T78 l0 x10_1).f2.f1).length c366_4] 78 (0, 0))) := ⟨by (with_reducible repeat (first | refine kN_ ?_ _ | refine kD_ ?_ | refine kA_ ?_ _)); refine blk_put (cs := #[.bool false, .int .i64 ((rd_T78 l0 x10_1).f1.f0), .slice A366_2 ((rd_T78 l0 x10_1).f1.f1).length c366_2, .int .i64 ((rd_T78 l0 x10_1).f2.f0), .slice none 0 0]) ?_ 4 _ rfl; (with_reducible repeat (first | refine kN_ ?_ _ | refine kD_ ?_ | refine kA_ ?_ _)); refine blk_put (cs := #[.bool false, .int .i64 ((rd_T78 l0 x10_1).f1.f0), .slice A366_2 ((rd_T78 l0 x10_1).f1.f1).length c366_2, .int .i64 0, .slice none 0 0]) ?_ 3 _ rfl; (with_reducible repeat (first | refine kN_ ?_ _ | refine kD_ ?_ | refine kA_ ?_ _)); refine blk_put (cs := #[.bool false, .int .i64 ((rd_T78 l0 x10_1).f1.f0), .slice none 0 0, .int .i64 0, .slice none 0 0]) ?_ 2 _ rfl; (with_reducible repeat (first | refine kN_ ?_ _ | refine kD_ ?_ | refine kA_ ?_ _)); refine blk_put (cs := #[.bool false, .int .i64 0, .slice none 0 0, .int .i64 0, .slice none 0 0]) ?_ 1 _ rfl; (with_reducible repeat (first | refine kN_ ?_ _ | refine kD_ ?_ | refine kA_ ?_ _)); refine blk_put (cs := #[.bool false, .int .i64 0, .slice none 0 0, .int .i64 0, .slice none 0 0]) ?_ 0 _ rfl; (with_reducible repeat (first | refine kN_ ?_ _ | refine kD_ ?_ | refine kA_ ?_ _)); exact BK367.out⟩
       have n1_ : Az_ (Below w.heap.size w (((((w29.setCell ⟨gb367, 0, none⟩ (.bool false)).setCell ⟨gb367, 1, none⟩ (.int .i64 ((rd_T78 l0 x10_1).f1.f0))).setCell ⟨gb367, 2, none⟩ (.slice A366_2 ((rd_T78 l0 x10_1).f1.f1).length c366_2)).setCell ⟨gb367, 3, none⟩ (.int .i64 ((rd_T78 l0 x10_1).f2.f0))).setCell ⟨gb367, 4, none⟩ (.slice A366_4 ((rd_T78 l0 x10_1).f2.f1).length c366_4))) := ⟨bq1_ HB GE367⟩
       (try clear BK367)
       (try clear HB)
       generalize (((((w29.setCell ⟨gb367, 0, none⟩ (.bool false)).setCell ⟨gb367, 1, none⟩ (.int .i64 ((rd_T78 l0 x10_1).f1.f0))).setCell ⟨gb367, 2, none⟩ (.slice A366_2 ((rd_T78 l0 x10_1).f1.f1).length c366_2)).setCell ⟨gb367, 3, none⟩ (.int .i64 ((rd_T78 l0 x10_1).f2.f0))).setCell ⟨gb367, 4, none⟩ (.slice A366_4 ((rd_T78 l0 x10_1).f2.f1).length c366_4)) = w31 at n0_ n1_ ⊢
       have BK367 := n0_
       have HB := n1_
       clear n0_ n1_
       replace BK367 := Az_.mk (kD_ BK367.out)
       replace HB := Az_.mk (bD_ HB.out)
       refine start_ (n := 16) (S := fun w' => w'.cell? ⟨gb367, 0, none⟩ = some (.bool false) ∧ w'.cell? ⟨gb367, 1, none⟩ = some (.int .i64 ((rd_T78 l0 x10_1).f1.f0)) ∧ w'.cell? ⟨gb367, 2, none⟩ = some (.slice A366_2 ((rd_T78 l0 x10_1).f1.f1).length c366_2) ∧ w'.cell? ⟨gb367, 3, none⟩ = some (.int .i64 ((rd_T78 l0 x10_1).f2.f0)) ∧ w'.cell? ⟨gb367, 4, none⟩ = some (.slice A366_4 ((rd_T78 l0 x10_1).f2.f1).length c366_4)) (ds := []) #[false, false, false, false, false, false, false, false, false, false, false, false, false, false, false, false] (by kernel_rfl) rfl rfl ⟨(yaa_ BK367.out 0).trans rfl, (yaa_ BK367.out 1).trans rfl, (yaa_ BK367.out 2).trans rfl, (yaa_ BK367.out 3).trans rfl, (yaa_ BK367.out 4).trans rfl⟩ (fun hHeld => ?_); refine with_tabW order_Looked.tab5 order_Looked.bits5 (fun HT_ HW_ => ?_)
       generalize w31.drew = w32 at BK367 HB hHeld ⊢
       refine pa_ 0 15 HT_ ?_
       refine ta5_ 1 16 HT_ HW_ hHeld ?_
       refine pa_ 2 17 HT_ ?_
       refine pu_ 3 18 HT_ ?_
       refine pu_ 4 19 HT_ ?_
       refine pu_ 5 20 HT_ ?_
       refine pu_ 6 21 HT_ ?_
       refine pu_ 7 22 HT_ ?_
       refine pu_ 8 23 HT_ ?_
       refine pu_ 9 24 HT_ ?_
       refine pu_ 10 25 HT_ ?_
       refine pu_ 11 26 HT_ ?_
       refine pu_ 12 27 HT_ ?_
       refine pu_ 13 28 HT_ ?_
       refine pu_ 14 29 HT_ ?_
       refine pa_ 15 30 HT_ ?_
       refine done_ (done_of HT_.out (by kernel_rfl)) ?_
       try go_wp2
       go_roundg k1
       case measure => have := HK1.out; omega
       case rel => exact ⟨(x3_1), (wrap64 (x10_1 + 1)), sq_, sq_, H', ⟨by have := HK1.out; omega⟩, ⟨bq1_ HB GE367⟩⟩
     ·rw [if_neg c4] at H
      exact absurd H (by simp)
    ·rw [if_neg c3] at H
     exact absurd H (by simp)
   ·rw [if_neg c2] at H
    have c2b0 : decide (x10_1 < (l0.length : Int)) = false := decide_eq_false c2
    clear c2
    by_cases c33 : x3_1 ≥ 0
    ·rw [if_pos c33] at H
     have c33b0 : decide (0 ≤ x3_1) = true := decide_eq_true c33
     clear c33
     obtain ⟨y371, hy371⟩ : ∃ y_ : List Int, y_ = (([x3_1] : List Int)) := ⟨_, rfl⟩
     replace H : (some y371) = some r := by first | (rw [hy371]; with_reducible exact H) | (have H2_ := (Option.bind_some _ _).symm.trans H; rw [hy371]; with_reducible exact H2_) | (have H2_ := (Option.bind_some _ _).symm.trans H; with_reducible exact H2_) | with_reducible exact H | (rw [hy371]; exact H) | exact H
     have Ny371 := Az_.mk hy371
     clear hy371
     obtain rfl := Option.some.inj H
     go_wp2_with (first | ((with_reducible refine yag_ (N := 36) rfl ?_); refine Kd.R_lit (Kd.int .i64) _ 3 ?hg (N := 36) ?hd (xs := ([x3_1] : List Int)) (inner := [.int .i64 x3_1]) (ok := fun _ => True) (okp := fun _ => True) ?hr ?hp (fun _ hk => hk) trivial (Below.refl _ _) (Nat.le_refl _) (by simp) ?_; (case hd => rfl); (case hg => rfl); (case hr => exact rq_); (case hp => exact (Reps.one (show Kd.M (Kd.int .i64) _ _ _ x3_1 [.int .i64 x3_1] from rfl) (Reps.none _ _))); intro v372 w34 ho35 hb hg_ hnew_; clear hg_ hnew_; (first | rw [← Ny371.out] at ho35 | (simp only [Int.reduceToNat] at ho35; rw [← Ny371.out] at ho35)); have HO373 := Az_.mk (Kd.R_lower ho35 (bZ_ (bq_ HB))); replace HB := Az_.mk (bT_ (bq_ HB) hb); clear hb ho35))
     go_ret
     exact ⟨_, by first | rfl | (simp [yad_, yac_] <;> rfl) | (simp [*, yad_, yac_] <;> rfl), by (with_reducible repeat (first | apply Kd.R_alloc | apply Kd.R_drewN | apply Kd.R_drew)); exact HO373.out, bq_ HB⟩
    ·rw [if_neg c33] at H
     have c33b0 : decide (0 ≤ x3_1) = false := decide_eq_false c33
     clear c33
     have H' := Az_.mk H
     clear H
     go_wp2
     go_loopg [6, 39] k1 (fun kq v6 v39 w' => ∃ (x6_2 : List Int) (x39_2 : Int), v39 = .int .i64 x39_2 ∧ Az_ (order_Looked.l1 kq l0 x6_2 (l0.length : Int) x39_2 = some r) ∧ Az_ (kq ≤ k1) ∧ Az_ (Kd.R (Kd.int .i64) 3 w' w.heap.size (fun _ => True) v6 x6_2) ∧ Az_ (Below w.heap.size w w'))
     case atStart => exact ⟨(([] : List Int)), (0), sq_, H', ⟨Nat.le_refl _⟩, ⟨by first | exact Kd.R_nil _ _ _ _ _ | exact Kd.N_nil _ _ _ _ _ | exact Kd.V_nil _ _ _ _ _ | exact Kd.Q_nil _ _ _ _ _ | exact Kd.S_nil _ _ _ _ _⟩, ⟨bq_ HB⟩⟩
     case round =>
      clear H'
      try clear c1
      try clear c2
      try clear c2b0
      try clear p2
      try clear c3
      try clear p3
      try clear q3
      try clear hx3
      try clear c4
      try clear q5
      try clear c6
      try clear p6
      try clear c8
      try clear c13
      try clear c14
      try clear c16
      try clear c16b0
      try clear c33
      try clear c33b0
      try clear hcz24_0
      try clear hcz24_1
      try clear hcz24_2
      try clear hcz24_3
      try clear hcz24_4
      try clear hcz30_0
      try clear hcz30_1
      try clear hcz30_2
      try clear hcz30_3
      try clear hcz30_4
      try clear hfz24_0
      try clear hfz24_1
      try clear hfz24_2
      try clear hfz24_3
      try clear hfz24_4
      try clear hfz30_0
      try clear hfz30_1
      try clear hfz30_2
      try clear hfz30_3
      try clear hfz30_4
      try clear hx366_0
      try clear hx366_1
      try clear hx366_2
      try clear hx366_3
      try clear hx366_4
      try clear hx369_0
      try clear hx369_1
      try clear hx369_2
      try clear hx369_3
      try clear hx369_4
      try clear p366
      try clear p369
      try clear q366
      try clear q369
      obtain ⟨x6_2, x39_2, rfl, HA, HK2, HO_6, HB⟩ := hrel
      cases gk with
      | zero => exact absurd HA.out (by simp [order_Looked.l1])
      | succ k2 =>
       have H := HA.out
       clear HA
       simp only [order_Looked.l1] at H
       by_cases c36 : x39_2 < (l0.length : Int)
       ·rw [if_pos c36] at H
        have c36b0 : decide (x39_2 < (l0.length : Int)) = true := decide_eq_true c36
        clear c36
        replace H := Option.bind_eq_some_iff.mp H
        obtain ⟨t374, A370, H⟩ := H
        replace H : (if t374 = true then (if x6_2.length < 17592186044416 then (order_Looked.l1 k2 l0 (x6_2 ++ [x39_2]) (l0.length : Int) (wrap64 (x39_2 + 1))) else (none)) else (order_Looked.l1 k2 l0 x6_2 (l0.length : Int) (wrap64 (x39_2 + 1)))) = some r := H
        have A37 := Az_.mk A370
        clear A370
        by_cases c38 : t374 = true
        ·subst c38
         have H1 : (if x6_2.length < 17592186044416 then (order_Looked.l1 k2 l0 (x6_2 ++ [x39_2]) (l0.length : Int) (wrap64 (x39_2 + 1))) else (none)) = some r := by rw [if_pos rfl] at H; exact H
         clear H
         have H := H1
         clear H1
         by_cases c39 : x6_2.length < 17592186044416
         ·rw [if_pos c39] at H
          have LMc39 := Az_.mk c39
          clear c39
          obtain ⟨y375, hy375⟩ : ∃ y_ : List Int, y_ = (x6_2 ++ [x39_2]) := ⟨_, rfl⟩
          replace H : (order_Looked.l1 k2 l0 y375 (l0.length : Int) (wrap64 (x39_2 + 1))) = some r := by first | (rw [hy375]; with_reducible exact H) | (have H2_ := (Option.bind_some _ _).symm.trans H; rw [hy375]; with_reducible exact H2_) | (have H2_ := (Option.bind_some _ _).symm.trans H; with_reducible exact H2_) | with_reducible exact H | (rw [hy375]; exact H) | exact H
          have Ny375 := Az_.mk hy375
          clear hy375
          have H' := Az_.mk H
          clear H
          go_wp2_with (first | ((with_reducible refine yaf_ (f := 59) rfl ?_); refine goesL_ (some 44) rfl rfl Try.func59 (by kernel_rfl) rfl #[.slice A0 l0.length c0, .int .i64 x39_2] rfl mq_ ?_; (with_reducible refine (order_Greatest.calls _ _ l0 x39_2 true _ ?side1 ?side2 A37.out).mono ?_); (case side1 => exact cq_ (Kd.C_below HR0.out HB.out)); (case side2 => exact HC0.out); rintro e w40 ⟨rfl, hb⟩; refine ⟨_, rfl, ?_⟩; replace HO_6 := Az_.mk (Kd.R_below (rr_ HO_6) hb); replace HB := Az_.mk (bT_ (bq_ HB) hb); (try clear hb); (try clear hb2); (try clear hk); (try clear hi)) | ((with_reducible refine gate_builtin (b := .append) (xs := #[.tmp 45, .tmp 47]) rfl ?_); at_builtin; refine Kd.R_append (Kd.int .i64) (w0 := w) w.heap.size rfl (.tmp 45) (.tmp 47) 25 3 (.int .i64 0) 8 rfl Try.underlying25 info3 rfl (by decide) (by omega) u6 x6_2 x39_2 [.int .i64 x39_2] (fun _ => True) (fun _ => False) rfl rfl ?aP (fun _ hk => hk.elim) ?aF ?aO ?aB ?aS ?aL ?_; (case aP => exact rfl); (case aB => exact (bq_ HB)); (case aF => exact (fun _ _ => trivial)); (case aO => exact (rr_ HO_6)); (case aS => exact (bZ_ (bq_ HB))); (case aL => have := LMc39.out; omega); intro v376 w41 ho hb hg hat; rw [← Ny375.out] at ho; have n0_ := Az_.mk (hb); have n1_ := Az_.mk (ho); clear HB; clear HO_6; have HB := n0_; have HO377 := n1_; clear n0_ n1_; clear ho hb hg hat))
          go_roundg k2
          case measure => have := HK1.out; have := HK2.out; omega
          case rel => exact ⟨(y375), (wrap64 (x39_2 + 1)), sq_, H', ⟨by have := HK1.out; have := HK2.out; omega⟩, ⟨by (with_reducible repeat (first | apply Kd.R_alloc | apply Kd.R_drewN | apply Kd.R_drew)); exact HO377.out⟩, ⟨bq_ HB⟩⟩
         ·rw [if_neg c39] at H
          exact absurd H (by simp)
        ·replace c38 := Bool.eq_false_iff.mpr c38
         subst c38
         have H1 : (order_Looked.l1 k2 l0 x6_2 (l0.length : Int) (wrap64 (x39_2 + 1))) = some r := by rw [if_neg (show ¬ (false = true) by decide)] at H; exact H
         clear H
         have H := H1
         clear H1
         have H' := Az_.mk H
         clear H
         go_wp2_with (first | ((with_reducible refine yaf_ (f := 59) rfl ?_); refine goesL_ (some 44) rfl rfl Try.func59 (by kernel_rfl) rfl #[.slice A0 l0.length c0, .int .i64 x39_2] rfl mq_ ?_; (with_reducible refine (order_Greatest.calls _ _ l0 x39_2 false _ ?side1 ?side2 A37.out).mono ?_); (case side1 => exact cq_ (Kd.C_below HR0.out HB.out)); (case side2 => exact HC0.out); rintro e w42 ⟨rfl, hb⟩; refine ⟨_, rfl, ?_⟩; replace HO_6 := Az_.mk (Kd.R_below (rr_ HO_6) hb); replace HB := Az_.mk (bT_ (bq_ HB) hb); (try clear hb); (try clear hb2); (try clear hk); (try clear hi)))
         go_roundg k2
         case measure => have := HK1.out; have := HK2.out; omega
         case rel => exact ⟨(x6_2), (wrap64 (x39_2 + 1)), sq_, H', ⟨by have := HK1.out; have := HK2.out; omega⟩, ⟨by (with_reducible repeat (first | apply Kd.R_alloc | apply Kd.R_drewN | apply Kd.R_drew)); exact HO_6.out⟩, ⟨bq_ HB⟩⟩
       ·rw [if_neg c36] at H
        have c36b0 : decide (x39_2 < (l0.length : Int)) = false := decide_eq_false c36
        clear c36
        obtain rfl := Option.some.inj H
        go_wp2
        go_ret
        exact ⟨_, by first | rfl | (simp [yad_, yac_] <;> rfl) | (simp [*, yad_, yac_] <;> rfl), by (with_reducible repeat (first | apply Kd.R_alloc | apply Kd.R_drewN | apply Kd.R_drew)); exact HO_6.out, bq_ HB⟩
end
section
attribute [local go_sem] max2_int min2_int max_two min_two yal_ yak_ max_four min_four
def soriteslaw14_alive.f (k : Nat)  : Option (Bool) := (order_Looked.f k (([(⟨false, (⟨1, ([] : List (S30))⟩ : S30), (⟨0, ([] : List (S30))⟩ : S30)⟩ : S78), (⟨true, (⟨2, ([] : List (S30))⟩ : S30), (⟨0, ([] : List (S30))⟩ : S30)⟩ : S78)] : List (S78)))).bind fun t381 => (if (t381.length : Int) = 1 then (if 0 < (t381.length : Int) then (if (rd t381 0) = 1 then ((order_Looked.f k ([] : List (S78))).bind fun t385 => (some ((t385.length : Int) == 0))) else (some false)) else (none)) else (some false))
set_option maxHeartbeats 8000000 in
set_option maxRecDepth 100000 in
theorem soriteslaw14_alive.calls (k : Nat)  (r : Bool) (w : World) (h : soriteslaw14_alive.f k  = some r) :
  Calls Try.prog 54 #[] w fun e w' => e = .returned (.bool r) ∧ Below w.heap.size w w' := by
 have hu30 := Try.underlying30
 have hu78 := Try.underlying78
 have HB := Az_.mk (Below.refl w.heap.size w)
 have H : ((order_Looked.f k (([(⟨false, (⟨1, ([] : List (S30))⟩ : S30), (⟨0, ([] : List (S30))⟩ : S30)⟩ : S78), (⟨true, (⟨2, ([] : List (S30))⟩ : S30), (⟨0, ([] : List (S30))⟩ : S30)⟩ : S78)] : List (S78)))).bind fun t381 => (if (t381.length : Int) = 1 then (if 0 < (t381.length : Int) then (if (rd t381 0) = 1 then ((order_Looked.f k ([] : List (S78))).bind fun t385 => (some ((t385.length : Int) == 0))) else (some false)) else (none)) else (some false))) = some r := h
 clear h
 obtain ⟨y378, hy378⟩ : ∃ y_ : List (S78), y_ = (([(⟨false, (⟨1, ([] : List (S30))⟩ : S30), (⟨0, ([] : List (S30))⟩ : S30)⟩ : S78), (⟨true, (⟨2, ([] : List (S30))⟩ : S30), (⟨0, ([] : List (S30))⟩ : S30)⟩ : S78)] : List (S78))) := ⟨_, rfl⟩
 replace H : ((order_Looked.f k y378).bind fun t381 => (if (t381.length : Int) = 1 then (if 0 < (t381.length : Int) then (if (rd t381 0) = 1 then ((order_Looked.f k ([] : List (S78))).bind fun t385 => (some ((t385.length : Int) == 0))) else (some false)) else (none)) else (some false))) = some r := by first | (rw [hy378]; with_reducible exact H) | (have H2_ := (Option.bind_some _ _).symm.trans H; rw [hy378]; with_reducible exact H2_) | (have H2_ := (Option.bind_some _ _).symm.trans H; with_reducible exact H2_) | with_reducible exact H | (rw [hy378]; exact H) | exact H
 have Ny378 := Az_.mk hy378
 clear hy378
 replace H := Option.bind_eq_some_iff.mp H
 obtain ⟨t381, A10, H⟩ := H
 replace H : (if (t381.length : Int) = 1 then (if 0 < (t381.length : Int) then (if (rd t381 0) = 1 then ((order_Looked.f k ([] : List (S78))).bind fun t385 => (some ((t385.length : Int) == 0))) else (some false)) else (none)) else (some false)) = some r := H
 have A1 := Az_.mk A10
 clear A10
 by_cases c2 : (t381.length : Int) = 1
 ·rw [if_pos c2] at H
  have c2b0 : ((t381.length : Int) == 1) = true := beq_iff_eq.mpr c2
  have c2b1 : ((t381.length : Int) != 1) = false := bne_eq_false_iff_eq.mpr c2
  clear c2
  by_cases c3 : 0 < (t381.length : Int)
  ·rw [if_pos c3] at H
   have c3b0 : decide (0 < (t381.length : Int)) = true := decide_eq_true c3
   have c3b1 : decide (0 < t381.length) = true := decide_eq_true (by omega)
   clear c3
   by_cases c4 : (rd t381 0) = 1
   ·rw [if_pos c4] at H
    have c4b0 : ((rd t381 0) == 1) = true := beq_iff_eq.mpr c4
    have c4b1 : ((rd t381 0) != 1) = false := bne_eq_false_iff_eq.mpr c4
    clear c4
    replace H := Option.bind_eq_some_iff.mp H
    obtain ⟨t385, A50, H⟩ := H
    replace H : (some ((t385.length : Int) == 0)) = some r := H
    have A5 := Az_.mk A50
    clear A50
    obtain rfl := Option.some.inj H
    go_enter Try.func54, Try.ntmps54
    go_wp2_with (first | ((with_reducible refine yag_ (N := 6) rfl ?_); (try (refine gate_guard (by rfl) ?_; dsimp only)); refine Kd.R_lit k78 _ 78 ?hg (N := 6) ?hd (xs := ([(⟨false, (⟨1, ([] : List (S30))⟩ : S30), (⟨0, ([] : List (S30))⟩ : S30)⟩ : S78), (⟨true, (⟨2, ([] : List (S30))⟩ : S30), (⟨0, ([] : List (S30))⟩ : S30)⟩ : S78)] : List (S78))) (inner := [.bool false, .int .i64 1, .slice none 0 0, .int .i64 0, .slice none 0 0, .bool true, .int .i64 2, .slice none 0 0, .int .i64 0, .slice none 0 0]) (ok := fun _ => True) (okp := fun _ => True) ?hr ?hp (fun _ hk => hk) trivial (Below.refl _ _) (Nat.le_refl _) (by simp) ?_; (case hd => rfl); (case hg => rfl); (case hr => exact rq_); (case hp => exact (Reps.c5 (show Kd.M k78 _ _ _ (⟨false, (⟨1, ([] : List (S30))⟩ : S30), (⟨0, ([] : List (S30))⟩ : S30)⟩ : S78) [.bool false, .int .i64 1, .slice none 0 0, .int .i64 0, .slice none 0 0] from (k78_mkM _ _ _ (⟨false, (⟨1, ([] : List (S30))⟩ : S30), (⟨0, ([] : List (S30))⟩ : S30)⟩ : S78) (Kd.R_nil _ _ _ _ _) (Kd.R_nil _ _ _ _ _))) (Reps.c5 (show Kd.M k78 _ _ _ (⟨true, (⟨2, ([] : List (S30))⟩ : S30), (⟨0, ([] : List (S30))⟩ : S30)⟩ : S78) [.bool true, .int .i64 2, .slice none 0 0, .int .i64 0, .slice none 0 0] from (k78_mkM _ _ _ (⟨true, (⟨2, ([] : List (S30))⟩ : S30), (⟨0, ([] : List (S30))⟩ : S30)⟩ : S78) (Kd.R_nil _ _ _ _ _) (Kd.R_nil _ _ _ _ _))) (Reps.none _ _)))); intro v379 w6 ho7 hb hg_ hnew_; clear hg_ hnew_; (first | rw [← Ny378.out] at ho7 | (simp only [Int.reduceToNat] at ho7; rw [← Ny378.out] at ho7)); have HO380 := Az_.mk (Kd.R_lower ho7 (bZ_ (bq_ HB))); replace HB := Az_.mk (bT_ (bq_ HB) hb); clear hb ho7; obtain ⟨Ao8, co8, eo8⟩ := Kd.R_slice HO380.out; subst eo8) | ((with_reducible refine yaf_ (f := 58) rfl ?_); refine goesL_ (some 7) rfl rfl Try.func58 (by kernel_rfl) rfl #[.slice Ao8 y378.length co8] rfl mq_ ?_; (with_reducible refine (order_Looked.calls k _ _ y378 t381 _ ?side1 ?side2 A1.out).mono ?_); (case side1 => repeat (first | exact (Kd.R_reads' HO380.out).2.2 | (with_reducible refine Kd.C_alloc ?_ _) | (with_reducible refine Kd.C_drewN ?_ _) | (with_reducible refine Kd.C_drew ?_))); (case side2 => exact (Kd.R_reads' HO380.out).2.1); rintro e w9 ⟨v382, rfl, ho0, hb⟩; refine ⟨_, rfl, ?_⟩; replace HO380 := Az_.mk (Kd.R_below (rr_ HO380) hb); have HO383 := Az_.mk (Kd.R_lower ho0 (bZ_ (bq_ HB))); replace HB := Az_.mk (bT_ (bq_ HB) hb); (try clear hb); (try clear hb2); (try clear hk); (try clear hi); (try clear ho0); obtain ⟨Ao10, co10, eo10⟩ := Kd.R_slice HO383.out; subst eo10; have p384 : 0 ≤ (0 : Int) := (by omega); have q384 : 0 < (t381.length : Int) := of_decide_eq_true (by first | (with_reducible assumption) | assumption); obtain ⟨ad384, e384, hx384_0⟩ := Kd.at_int (Kd.R_reads' HO383.out).2.2 0 p384 q384; cases e384; have qi384 : (0 < t381.length) = True := eq_true (by omega); (try rw [show ((0 : Int)).toNat = 0 from rfl] at hx384_0); (try rw [Addr.add_zero'] at hx384_0); replace p384 := eq_true p384; replace q384 := eq_true q384) | (go_at_call 58; (refine (order_Looked.calls k _ _ ([] : List (S78)) t385 _ ?side1 ?side2 A5.out).mono ?_); (case side1 => exact Kd.C_nil _ _); (case side2 => exact Nat.le_refl _); rintro e w11 ⟨v386, rfl, ho0, hb⟩; replace HO380 := Az_.mk (Kd.R_below (rr_ HO380) hb); have HO387 := Az_.mk (Kd.R_lower (Kd.R_new' ho0 (Kd.R_lt (rr_ HO383))) (bZ_ (bq_ HB))); replace HO383 := Az_.mk (Kd.R_elder' (rr_ HO383) (Kd.R_base ho0) hb); replace HB := Az_.mk (bT_ (bq_ HB) hb); (try clear hb); (try clear hb2); (try clear hk); (try clear hi); (try clear ho0); obtain ⟨Ao12, co12, eo12⟩ := Kd.R_slice HO387.out; subst eo12))
    go_ret
    exact ⟨by first | rfl | (simp [yad_, yac_] <;> rfl) | (simp [*, yad_, yac_] <;> rfl), bq_ HB⟩
   ·rw [if_neg c4] at H
    have c4b0 : ((rd t381 0) == 1) = false := beq_eq_false_iff_ne.mpr c4
    have c4b1 : ((rd t381 0) != 1) = true := bne_iff_ne.mpr c4
    obtain rfl := Option.some.inj H
    go_enter Try.func54, Try.ntmps54
    go_wp2_with (first | ((with_reducible refine yag_ (N := 6) rfl ?_); (try (refine gate_guard (by rfl) ?_; dsimp only)); refine Kd.R_lit k78 _ 78 ?hg (N := 6) ?hd (xs := ([(⟨false, (⟨1, ([] : List (S30))⟩ : S30), (⟨0, ([] : List (S30))⟩ : S30)⟩ : S78), (⟨true, (⟨2, ([] : List (S30))⟩ : S30), (⟨0, ([] : List (S30))⟩ : S30)⟩ : S78)] : List (S78))) (inner := [.bool false, .int .i64 1, .slice none 0 0, .int .i64 0, .slice none 0 0, .bool true, .int .i64 2, .slice none 0 0, .int .i64 0, .slice none 0 0]) (ok := fun _ => True) (okp := fun _ => True) ?hr ?hp (fun _ hk => hk) trivial (Below.refl _ _) (Nat.le_refl _) (by simp) ?_; (case hd => rfl); (case hg => rfl); (case hr => exact rq_); (case hp => exact (Reps.c5 (show Kd.M k78 _ _ _ (⟨false, (⟨1, ([] : List (S30))⟩ : S30), (⟨0, ([] : List (S30))⟩ : S30)⟩ : S78) [.bool false, .int .i64 1, .slice none 0 0, .int .i64 0, .slice none 0 0] from (k78_mkM _ _ _ (⟨false, (⟨1, ([] : List (S30))⟩ : S30), (⟨0, ([] : List (S30))⟩ : S30)⟩ : S78) (Kd.R_nil _ _ _ _ _) (Kd.R_nil _ _ _ _ _))) (Reps.c5 (show Kd.M k78 _ _ _ (⟨true, (⟨2, ([] : List (S30))⟩ : S30), (⟨0, ([] : List (S30))⟩ : S30)⟩ : S78) [.bool true, .int .i64 2, .slice none 0 0, .int .i64 0, .slice none 0 0] from (k78_mkM _ _ _ (⟨true, (⟨2, ([] : List (S30))⟩ : S30), (⟨0, ([] : List (S30))⟩ : S30)⟩ : S78) (Kd.R_nil _ _ _ _ _) (Kd.R_nil _ _ _ _ _))) (Reps.none _ _)))); intro v379 w13 ho14 hb hg_ hnew_; clear hg_ hnew_; (first | rw [← Ny378.out] at ho14 | (simp only [Int.reduceToNat] at ho14; rw [← Ny378.out] at ho14)); have HO380 := Az_.mk (Kd.R_lower ho14 (bZ_ (bq_ HB))); replace HB := Az_.mk (bT_ (bq_ HB) hb); clear hb ho14; obtain ⟨Ao15, co15, eo15⟩ := Kd.R_slice HO380.out; subst eo15) | ((with_reducible refine yaf_ (f := 58) rfl ?_); refine goesL_ (some 7) rfl rfl Try.func58 (by kernel_rfl) rfl #[.slice Ao15 y378.length co15] rfl mq_ ?_; (with_reducible refine (order_Looked.calls k _ _ y378 t381 _ ?side1 ?side2 A1.out).mono ?_); (case side1 => repeat (first | exact (Kd.R_reads' HO380.out).2.2 | (with_reducible refine Kd.C_alloc ?_ _) | (with_reducible refine Kd.C_drewN ?_ _) | (with_reducible refine Kd.C_drew ?_))); (case side2 => exact (Kd.R_reads' HO380.out).2.1); rintro e w16 ⟨v382, rfl, ho0, hb⟩; refine ⟨_, rfl, ?_⟩; replace HO380 := Az_.mk (Kd.R_below (rr_ HO380) hb); have HO383 := Az_.mk (Kd.R_lower ho0 (bZ_ (bq_ HB))); replace HB := Az_.mk (bT_ (bq_ HB) hb); (try clear hb); (try clear hb2); (try clear hk); (try clear hi); (try clear ho0); obtain ⟨Ao17, co17, eo17⟩ := Kd.R_slice HO383.out; subst eo17; have p384 : 0 ≤ (0 : Int) := (by omega); have q384 : 0 < (t381.length : Int) := of_decide_eq_true (by first | (with_reducible assumption) | assumption); obtain ⟨ad384, e384, hx384_0⟩ := Kd.at_int (Kd.R_reads' HO383.out).2.2 0 p384 q384; cases e384; have qi384 : (0 < t381.length) = True := eq_true (by omega); (try rw [show ((0 : Int)).toNat = 0 from rfl] at hx384_0); (try rw [Addr.add_zero'] at hx384_0); replace p384 := eq_true p384; replace q384 := eq_true q384))
    go_ret
    exact ⟨by first | rfl | (simp [yad_, yac_] <;> rfl) | (simp [*, yad_, yac_] <;> rfl), bq_ HB⟩
  ·rw [if_neg c3] at H
   exact absurd H (by simp)
 ·rw [if_neg c2] at H
  have c2b0 : ((t381.length : Int) == 1) = false := beq_eq_false_iff_ne.mpr c2
  have c2b1 : ((t381.length : Int) != 1) = true := bne_iff_ne.mpr c2
  obtain rfl := Option.some.inj H
  go_enter Try.func54, Try.ntmps54
  go_wp2_with (first | ((with_reducible refine yag_ (N := 6) rfl ?_); (try (refine gate_guard (by rfl) ?_; dsimp only)); refine Kd.R_lit k78 _ 78 ?hg (N := 6) ?hd (xs := ([(⟨false, (⟨1, ([] : List (S30))⟩ : S30), (⟨0, ([] : List (S30))⟩ : S30)⟩ : S78), (⟨true, (⟨2, ([] : List (S30))⟩ : S30), (⟨0, ([] : List (S30))⟩ : S30)⟩ : S78)] : List (S78))) (inner := [.bool false, .int .i64 1, .slice none 0 0, .int .i64 0, .slice none 0 0, .bool true, .int .i64 2, .slice none 0 0, .int .i64 0, .slice none 0 0]) (ok := fun _ => True) (okp := fun _ => True) ?hr ?hp (fun _ hk => hk) trivial (Below.refl _ _) (Nat.le_refl _) (by simp) ?_; (case hd => rfl); (case hg => rfl); (case hr => exact rq_); (case hp => exact (Reps.c5 (show Kd.M k78 _ _ _ (⟨false, (⟨1, ([] : List (S30))⟩ : S30), (⟨0, ([] : List (S30))⟩ : S30)⟩ : S78) [.bool false, .int .i64 1, .slice none 0 0, .int .i64 0, .slice none 0 0] from (k78_mkM _ _ _ (⟨false, (⟨1, ([] : List (S30))⟩ : S30), (⟨0, ([] : List (S30))⟩ : S30)⟩ : S78) (Kd.R_nil _ _ _ _ _) (Kd.R_nil _ _ _ _ _))) (Reps.c5 (show Kd.M k78 _ _ _ (⟨true, (⟨2, ([] : List (S30))⟩ : S30), (⟨0, ([] : List (S30))⟩ : S30)⟩ : S78) [.bool true, .int .i64 2, .slice none 0 0, .int .i64 0, .slice none 0 0] from (k78_mkM _ _ _ (⟨true, (⟨2, ([] : List (S30))⟩ : S30), (⟨0, ([] : List (S30))⟩ : S30)⟩ : S78) (Kd.R_nil _ _ _ _ _) (Kd.R_nil _ _ _ _ _))) (Reps.none _ _)))); intro v379 w18 ho19 hb hg_ hnew_; clear hg_ hnew_; (first | rw [← Ny378.out] at ho19 | (simp only [Int.reduceToNat] at ho19; rw [← Ny378.out] at ho19)); have HO380 := Az_.mk (Kd.R_lower ho19 (bZ_ (bq_ HB))); replace HB := Az_.mk (bT_ (bq_ HB) hb); clear hb ho19; obtain ⟨Ao20, co20, eo20⟩ := Kd.R_slice HO380.out; subst eo20) | ((with_reducible refine yaf_ (f := 58) rfl ?_); refine goesL_ (some 7) rfl rfl Try.func58 (by kernel_rfl) rfl #[.slice Ao20 y378.length co20] rfl mq_ ?_; (with_reducible refine (order_Looked.calls k _ _ y378 t381 _ ?side1 ?side2 A1.out).mono ?_); (case side1 => repeat (first | exact (Kd.R_reads' HO380.out).2.2 | (with_reducible refine Kd.C_alloc ?_ _) | (with_reducible refine Kd.C_drewN ?_ _) | (with_reducible refine Kd.C_drew ?_))); (case side2 => exact (Kd.R_reads' HO380.out).2.1); rintro e w21 ⟨v382, rfl, ho0, hb⟩; refine ⟨_, rfl, ?_⟩; replace HO380 := Az_.mk (Kd.R_below (rr_ HO380) hb); have HO383 := Az_.mk (Kd.R_lower ho0 (bZ_ (bq_ HB))); replace HB := Az_.mk (bT_ (bq_ HB) hb); (try clear hb); (try clear hb2); (try clear hk); (try clear hi); (try clear ho0); obtain ⟨Ao22, co22, eo22⟩ := Kd.R_slice HO383.out; subst eo22))
  go_ret
  exact ⟨by first | rfl | (simp [yad_, yac_] <;> rfl) | (simp [*, yad_, yac_] <;> rfl), bq_ HB⟩
end
section
attribute [local go_sem] max2_int min2_int max_two min_two yal_ yak_ max_four min_four
def soriteslaw11_Fine.l0 : Nat → List (S81) → Int → Int → Option (Bool)
 | 0, _, _, _ => none
 | k + 1, x0, x2, x7 => if x7 < (x0.length : Int) then (if 0 ≤ x7 then ((soriteslaw06_Small.f k ((rd_T81 x0 x7).f1.f0) ((rd_T81 x0 x7).f1.f1) x2 8).bind fun t389 => (if t389 < 0 then (some false) else ((soriteslaw06_Small.f k ((rd_T81 x0 x7).f2.f0) ((rd_T81 x0 x7).f2.f1) x2 8).bind fun t391 => (if t391 < 0 then (some false) else (soriteslaw11_Fine.l0 k x0 x2 (wrap64 (x7 + 1))))))) else (none)) else (some true)
def soriteslaw11_Fine.f (k : Nat) (l0 : List (S81)) (a1 : Int) (a2 : Int) : Option (Bool) := if (l0.length : Int) > a1 then (some false) else (soriteslaw11_Fine.l0 k l0 a2 0)
set_option maxHeartbeats 8000000 in
set_option maxRecDepth 100000 in
theorem soriteslaw11_Fine.calls (k : Nat) (A0 : Option Addr) (c0 : Nat) (l0 : List (S81)) (a1 : Int) (a2 : Int) (r : Bool) (w : World) (hr0 : Kd.C k81 w A0 l0.length l0) (hc0 : l0.length ≤ c0) (h : soriteslaw11_Fine.f k l0 a1 a2 = some r) :
  Calls Try.prog 55 #[.slice A0 l0.length c0, .int .i64 a1, .int .i64 a2] w fun e w' => e = .returned (.bool r) ∧ Below w.heap.size w w' := by
 have hu24 := Try.underlying24
 have HR0 := Az_.mk hr0
 have HC0 := Az_.mk hc0
 clear hr0 hc0
 have HB := Az_.mk (Below.refl w.heap.size w)
 have H : (if (l0.length : Int) > a1 then (some false) else (soriteslaw11_Fine.l0 k l0 a2 0)) = some r := h
 clear h
 by_cases c4 : (l0.length : Int) > a1
 ·rw [if_pos c4] at H
  have c4b0 : decide (a1 < (l0.length : Int)) = true := decide_eq_true c4
  clear c4
  obtain rfl := Option.some.inj H
  go_enter Try.func55, Try.ntmps55
  go_wp2
  go_ret
  exact ⟨by first | rfl | (simp [yad_, yac_] <;> rfl) | (simp [*, yad_, yac_] <;> rfl), bq_ HB⟩
 ·rw [if_neg c4] at H
  have c4b0 : decide (a1 < (l0.length : Int)) = false := decide_eq_false c4
  clear c4
  have H' := Az_.mk H
  clear H
  go_enter Try.func55, Try.ntmps55
  go_wp2
  go_loopg [7] k (fun kq v7 w' => ∃ (x7_1 : Int), v7 = .int .i64 x7_1 ∧ Az_ (soriteslaw11_Fine.l0 kq l0 a2 x7_1 = some r) ∧ Az_ (kq ≤ k) ∧ Az_ (Below w.heap.size w w'))
  case atStart => exact ⟨(0), sq_, H', ⟨Nat.le_refl _⟩, ⟨bq_ HB⟩⟩
  case round =>
   clear H'
   try clear p2
   try clear c4
   try clear c4b0
   obtain ⟨x7_1, rfl, HA, HK1, HB⟩ := hrel
   cases gk with
   | zero => exact absurd HA.out (by simp [soriteslaw11_Fine.l0])
   | succ k1 =>
    have H := HA.out
    clear HA
    simp only [soriteslaw11_Fine.l0] at H
    by_cases c5 : x7_1 < (l0.length : Int)
    ·rw [if_pos c5] at H
     have c5b0 : decide (x7_1 < (l0.length : Int)) = true := decide_eq_true c5
     clear c5
     by_cases c6 : 0 ≤ x7_1
     ·rw [if_pos c6] at H
      have c6b0 : decide (0 ≤ x7_1) = true := decide_eq_true c6
      clear c6
      replace H := Option.bind_eq_some_iff.mp H
      obtain ⟨t389, A70, H⟩ := H
      replace H : (if t389 < 0 then (some false) else ((soriteslaw06_Small.f k1 ((rd_T81 l0 x7_1).f2.f0) ((rd_T81 l0 x7_1).f2.f1) a2 8).bind fun t391 => (if t391 < 0 then (some false) else (soriteslaw11_Fine.l0 k1 l0 a2 (wrap64 (x7_1 + 1)))))) = some r := H
      have A7 := Az_.mk A70
      clear A70
      by_cases c8 : t389 < 0
      ·rw [if_pos c8] at H
       have c8b0 : decide (t389 < 0) = true := decide_eq_true c8
       clear c8
       obtain rfl := Option.some.inj H
       have p388 : 0 ≤ (x7_1 : Int) := of_decide_eq_true (by first | (with_reducible assumption) | assumption)
       have q388 : x7_1 < (l0.length : Int) := of_decide_eq_true (by first | (with_reducible assumption) | assumption)
       obtain ⟨ad388, A388_2, c388_2, A388_4, c388_4, e388, hx388_0, hx388_1, hx388_2, hx388_3, hx388_4, hl388_2, hi388_2, hl388_4, hi388_4⟩ := at_T81 HR0.out x7_1 p388 q388
       cases e388
       replace hx388_0 := (HB.out.cell (World.block_lt_of_cell? w _ hx388_0)).trans hx388_0
       replace hx388_1 := (HB.out.cell (World.block_lt_of_cell? w _ hx388_1)).trans hx388_1
       replace hx388_2 := (HB.out.cell (World.block_lt_of_cell? w _ hx388_2)).trans hx388_2
       replace hx388_3 := (HB.out.cell (World.block_lt_of_cell? w _ hx388_3)).trans hx388_3
       replace hx388_4 := (HB.out.cell (World.block_lt_of_cell? w _ hx388_4)).trans hx388_4
       have HR388_2 := Az_.mk hi388_2
       have HC388_2 := Az_.mk hl388_2
       clear hi388_2 hl388_2
       have HR388_4 := Az_.mk hi388_4
       have HC388_4 := Az_.mk hl388_4
       clear hi388_4 hl388_4
       replace p388 := eq_true p388
       replace q388 := eq_true q388
       go_wp2_with (first | ((with_reducible refine yaf_ (f := 50) rfl ?_); refine goesL_ (some 24) rfl rfl Try.func50 (by kernel_rfl) rfl #[.agg #[.int .i64 ((rd_T81 l0 x7_1).f1.f0), .slice A388_2 ((rd_T81 l0 x7_1).f1.f1).length c388_2], .int .i64 a2, .int .i64 8] rfl mq_ ?_; (with_reducible refine (soriteslaw06_Small.calls k1 ((rd_T81 l0 x7_1).f1.f0) _ _ ((rd_T81 l0 x7_1).f1.f1) a2 8 t389 _ ?side1 ?side2 A7.out).mono ?_); (case side1 => exact cq_ (Kd.C_below HR388_2.out HB.out)); (case side2 => exact HC388_2.out); rintro e w9 ⟨rfl, hb⟩; refine ⟨_, rfl, ?_⟩; replace HB := Az_.mk (bT_ (bq_ HB) hb); (try clear hb); (try clear hb2); (try clear hk); (try clear hi)))
       go_ret
       exact ⟨by first | rfl | (simp [yad_, yac_] <;> rfl) | (simp [*, yad_, yac_] <;> rfl), bq_ HB⟩
      ·rw [if_neg c8] at H
       have c8b0 : decide (t389 < 0) = false := decide_eq_false c8
       clear c8
       replace H := Option.bind_eq_some_iff.mp H
       obtain ⟨t391, A100, H⟩ := H
       replace H : (if t391 < 0 then (some false) else (soriteslaw11_Fine.l0 k1 l0 a2 (wrap64 (x7_1 + 1)))) = some r := H
       have A10 := Az_.mk A100
       clear A100
       by_cases c11 : t391 < 0
       ·rw [if_pos c11] at H
        have c11b0 : decide (t391 < 0) = true := decide_eq_true c11
        clear c11
        obtain rfl := Option.some.inj H
        have p388 : 0 ≤ (x7_1 : Int) := of_decide_eq_true (by first | (with_reducible assumption) | assumption)
        have q388 : x7_1 < (l0.length : Int) := of_decide_eq_true (by first | (with_reducible assumption) | assumption)
        obtain ⟨ad388, A388_2, c388_2, A388_4, c388_4, e388, hx388_0, hx388_1, hx388_2, hx388_3, hx388_4, hl388_2, hi388_2, hl388_4, hi388_4⟩ := at_T81 HR0.out x7_1 p388 q388
        cases e388
        replace hx388_0 := (HB.out.cell (World.block_lt_of_cell? w _ hx388_0)).trans hx388_0
        replace hx388_1 := (HB.out.cell (World.block_lt_of_cell? w _ hx388_1)).trans hx388_1
        replace hx388_2 := (HB.out.cell (World.block_lt_of_cell? w _ hx388_2)).trans hx388_2
        replace hx388_3 := (HB.out.cell (World.block_lt_of_cell? w _ hx388_3)).trans hx388_3
        replace hx388_4 := (HB.out.cell (World.block_lt_of_cell? w _ hx388_4)).trans hx388_4
        have HR388_2 := Az_.mk hi388_2
        have HC388_2 := Az_.mk hl388_2
        clear hi388_2 hl388_2
        have HR388_4 := Az_.mk hi388_4
        have HC388_4 := Az_.mk hl388_4
        clear hi388_4 hl388_4
        replace p388 := eq_true p388
        replace q388 := eq_true q388
        go_wp2_with (first | ((with_reducible refine yaf_ (f := 50) rfl ?_); refine goesL_ (some 24) rfl rfl Try.func50 (by kernel_rfl) rfl #[.agg #[.int .i64 ((rd_T81 l0 x7_1).f1.f0), .slice A388_2 ((rd_T81 l0 x7_1).f1.f1).length c388_2], .int .i64 a2, .int .i64 8] rfl mq_ ?_; (with_reducible refine (soriteslaw06_Small.calls k1 ((rd_T81 l0 x7_1).f1.f0) _ _ ((rd_T81 l0 x7_1).f1.f1) a2 8 t389 _ ?side1 ?side2 A7.out).mono ?_); (case side1 => exact cq_ (Kd.C_below HR388_2.out HB.out)); (case side2 => exact HC388_2.out); rintro e w12 ⟨rfl, hb⟩; refine ⟨_, rfl, ?_⟩; replace HB := Az_.mk (bT_ (bq_ HB) hb); (try clear hb); (try clear hb2); (try clear hk); (try clear hi); have p390 : 0 ≤ (x7_1 : Int) := of_decide_eq_true (by first | (with_reducible assumption) | assumption); have q390 : x7_1 < (l0.length : Int) := of_decide_eq_true (by first | (with_reducible assumption) | assumption); obtain ⟨ad390, A390_2, c390_2, A390_4, c390_4, e390, hx390_0, hx390_1, hx390_2, hx390_3, hx390_4, hl390_2, hi390_2, hl390_4, hi390_4⟩ := at_T81 HR0.out x7_1 p390 q390; obtain rfl : ad388 = ad390 := (by injection e390); replace hx390_0 := (HB.out.cell (World.block_lt_of_cell? w _ hx390_0)).trans hx390_0; replace hx390_1 := (HB.out.cell (World.block_lt_of_cell? w _ hx390_1)).trans hx390_1; replace hx390_2 := (HB.out.cell (World.block_lt_of_cell? w _ hx390_2)).trans hx390_2; replace hx390_3 := (HB.out.cell (World.block_lt_of_cell? w _ hx390_3)).trans hx390_3; replace hx390_4 := (HB.out.cell (World.block_lt_of_cell? w _ hx390_4)).trans hx390_4; have HR390_2 := Az_.mk hi390_2; have HC390_2 := Az_.mk hl390_2; clear hi390_2 hl390_2; have HR390_4 := Az_.mk hi390_4; have HC390_4 := Az_.mk hl390_4; clear hi390_4 hl390_4; replace p390 := eq_true p390; replace q390 := eq_true q390) | (go_at_call 50; (with_reducible refine (soriteslaw06_Small.calls k1 ((rd_T81 l0 x7_1).f2.f0) _ _ ((rd_T81 l0 x7_1).f2.f1) a2 8 t391 _ ?side1 ?side2 A10.out).mono ?_); (case side1 => exact cq_ (Kd.C_below HR390_4.out HB.out)); (case side2 => exact HC390_4.out); rintro e w13 ⟨rfl, hb⟩; replace HB := Az_.mk (bT_ (bq_ HB) hb); (try clear hb); (try clear hb2); (try clear hk); (try clear hi)))
        go_ret
        exact ⟨by first | rfl | (simp [yad_, yac_] <;> rfl) | (simp [*, yad_, yac_] <;> rfl), bq_ HB⟩
       ·rw [if_neg c11] at H
        have c11b0 : decide (t391 < 0) = false := decide_eq_false c11
        clear c11
        have H' := Az_.mk H
        clear H
        have p388 : 0 ≤ (x7_1 : Int) := of_decide_eq_true (by first | (with_reducible assumption) | assumption)
        have q388 : x7_1 < (l0.length : Int) := of_decide_eq_true (by first | (with_reducible assumption) | assumption)
        obtain ⟨ad388, A388_2, c388_2, A388_4, c388_4, e388, hx388_0, hx388_1, hx388_2, hx388_3, hx388_4, hl388_2, hi388_2, hl388_4, hi388_4⟩ := at_T81 HR0.out x7_1 p388 q388
        cases e388
        replace hx388_0 := (HB.out.cell (World.block_lt_of_cell? w _ hx388_0)).trans hx388_0
        replace hx388_1 := (HB.out.cell (World.block_lt_of_cell? w _ hx388_1)).trans hx388_1
        replace hx388_2 := (HB.out.cell (World.block_lt_of_cell? w _ hx388_2)).trans hx388_2
        replace hx388_3 := (HB.out.cell (World.block_lt_of_cell? w _ hx388_3)).trans hx388_3
        replace hx388_4 := (HB.out.cell (World.block_lt_of_cell? w _ hx388_4)).trans hx388_4
        have HR388_2 := Az_.mk hi388_2
        have HC388_2 := Az_.mk hl388_2
        clear hi388_2 hl388_2
        have HR388_4 := Az_.mk hi388_4
        have HC388_4 := Az_.mk hl388_4
        clear hi388_4 hl388_4
        replace p388 := eq_true p388
        replace q388 := eq_true q388
        go_wp2_with (first | ((with_reducible refine yaf_ (f := 50) rfl ?_); refine goesL_ (some 24) rfl rfl Try.func50 (by kernel_rfl) rfl #[.agg #[.int .i64 ((rd_T81 l0 x7_1).f1.f0), .slice A388_2 ((rd_T81 l0 x7_1).f1.f1).length c388_2], .int .i64 a2, .int .i64 8] rfl mq_ ?_; (with_reducible refine (soriteslaw06_Small.calls k1 ((rd_T81 l0 x7_1).f1.f0) _ _ ((rd_T81 l0 x7_1).f1.f1) a2 8 t389 _ ?side1 ?side2 A7.out).mono ?_); (case side1 => exact cq_ (Kd.C_below HR388_2.out HB.out)); (case side2 => exact HC388_2.out); rintro e w14 ⟨rfl, hb⟩; refine ⟨_, rfl, ?_⟩; replace HB := Az_.mk (bT_ (bq_ HB) hb); (try clear hb); (try clear hb2); (try clear hk); (try clear hi); have p390 : 0 ≤ (x7_1 : Int) := of_decide_eq_true (by first | (with_reducible assumption) | assumption); have q390 : x7_1 < (l0.length : Int) := of_decide_eq_true (by first | (with_reducible assumption) | assumption); obtain ⟨ad390, A390_2, c390_2, A390_4, c390_4, e390, hx390_0, hx390_1, hx390_2, hx390_3, hx390_4, hl390_2, hi390_2, hl390_4, hi390_4⟩ := at_T81 HR0.out x7_1 p390 q390; obtain rfl : ad388 = ad390 := (by injection e390); replace hx390_0 := (HB.out.cell (World.block_lt_of_cell? w _ hx390_0)).trans hx390_0; replace hx390_1 := (HB.out.cell (World.block_lt_of_cell? w _ hx390_1)).trans hx390_1; replace hx390_2 := (HB.out.cell (World.block_lt_of_cell? w _ hx390_2)).trans hx390_2; replace hx390_3 := (HB.out.cell (World.block_lt_of_cell? w _ hx390_3)).trans hx390_3; replace hx390_4 := (HB.out.cell (World.block_lt_of_cell? w _ hx390_4)).trans hx390_4; have HR390_2 := Az_.mk hi390_2; have HC390_2 := Az_.mk hl390_2; clear hi390_2 hl390_2; have HR390_4 := Az_.mk hi390_4; have HC390_4 := Az_.mk hl390_4; clear hi390_4 hl390_4; replace p390 := eq_true p390; replace q390 := eq_true q390) | (go_at_call 50; (with_reducible refine (soriteslaw06_Small.calls k1 ((rd_T81 l0 x7_1).f2.f0) _ _ ((rd_T81 l0 x7_1).f2.f1) a2 8 t391 _ ?side1 ?side2 A10.out).mono ?_); (case side1 => exact cq_ (Kd.C_below HR390_4.out HB.out)); (case side2 => exact HC390_4.out); rintro e w15 ⟨rfl, hb⟩; replace HB := Az_.mk (bT_ (bq_ HB) hb); (try clear hb); (try clear hb2); (try clear hk); (try clear hi)))
        go_roundg k1
        case measure => have := HK1.out; omega
        case rel => exact ⟨(wrap64 (x7_1 + 1)), sq_, H', ⟨by have := HK1.out; omega⟩, ⟨bq_ HB⟩⟩
     ·rw [if_neg c6] at H
      exact absurd H (by simp)
    ·rw [if_neg c5] at H
     have c5b0 : decide (x7_1 < (l0.length : Int)) = false := decide_eq_false c5
     clear c5
     obtain rfl := Option.some.inj H
     go_wp2
     go_ret
     exact ⟨by first | rfl | (simp [yad_, yac_] <;> rfl) | (simp [*, yad_, yac_] <;> rfl), bq_ HB⟩
end
section
attribute [local go_sem] max2_int min2_int max_two min_two yal_ yak_ max_four min_four
def soriteslaw11_Of.l0 : Nat → List (S81) → List (S78) → Int → Option ((List (S78)))
 | 0, _, _, _ => none
 | k + 1, x0, x3, x4 => if x4 < (x0.length : Int) then (if 0 ≤ x4 then ((soriteslaw06_Of.f k ((rd_T81 x0 x4).f1.f0) ((rd_T81 x0 x4).f1.f1)).bind fun bt394 => ((soriteslaw06_Of.f k ((rd_T81 x0 x4).f2.f0) ((rd_T81 x0 x4).f2.f1)).bind fun bt399 => (if x3.length < 1954687338268 then (soriteslaw11_Of.l0 k x0 (x3 ++ [(⟨(rd_T81 x0 x4).f0, (⟨bt394.1, bt394.2⟩ : S30), (⟨bt399.1, bt399.2⟩ : S30)⟩ : S78)]) (wrap64 (x4 + 1))) else (none)))) else (none)) else (some x3)
def soriteslaw11_Of.f (k : Nat) (l0 : List (S81)) : Option ((List (S78))) := soriteslaw11_Of.l0 k l0 ([] : List (S78)) 0
def soriteslaw11_Of.T5 : Bool × List (List Nat × List Nat) := (true, [([], []), ([], []), ([], []), ([1, 2], [1, 2]), ([3], [3]), ([4], [4]), ([], []), ([], []), ([6, 7], [6, 7]), ([8], [8]), ([9], [9]), ([10], [10]), ([], []), ([], []), ([12, 13], [12, 13]), ([14], [14]), ([15], [15]), ([16, 11], [16]), ([5, 11, 17], [5, 11, 17]), ([18], [18]), ([0, 19, 17], [0, 19]), ([20, 20, 0, 1, 2, 3, 4, 5, 6, 7, 8, 9, 10, 11, 12, 13, 14, 15, 16, 17, 18, 19, 20], [0, 20])])
def soriteslaw11_Of.B5 : List Nat := [0, 0, 0, 6, 14, 30, 0, 0, 192, 448, 960, 1984, 0, 0, 12288, 28672, 61440, 131008, 262142, 524286, 1048575, 2097151]
theorem soriteslaw11_Of.tab5 : rtab .any (opsOf Try.f56 5) = soriteslaw11_Of.T5 := by kernel_rfl
theorem soriteslaw11_Of.bits5 : waitsOk soriteslaw11_Of.T5.2 soriteslaw11_Of.B5 = true := by kernel_rfl
set_option maxHeartbeats 8000000 in
set_option maxRecDepth 100000 in
theorem soriteslaw11_Of.calls (k : Nat) (A0 : Option Addr) (c0 : Nat) (l0 : List (S81)) (r : List (S78)) (w : World) (hr0 : Kd.C k81 w A0 l0.length l0) (hc0 : l0.length ≤ c0) (h : soriteslaw11_Of.f k l0 = some r) :
  Calls Try.prog 56 #[.slice A0 l0.length c0] w fun e w' => ∃ v0_ : Value, e = .returned (v0_) ∧ Kd.R k78 78 w' w.heap.size (fun _ => True) v0_ r ∧ Below w.heap.size w w' := by
 have hu24 := Try.underlying24
 have hu78 := Try.underlying78
 have HR0 := Az_.mk hr0
 have HC0 := Az_.mk hc0
 clear hr0 hc0
 have HB := Az_.mk (Below.refl w.heap.size w)
 have H : (soriteslaw11_Of.l0 k l0 ([] : List (S78)) 0) = some r := h
 clear h
 have H' := Az_.mk H
 clear H
 go_enter Try.func56, Try.ntmps56
 go_wp2
 go_loopg [3, 4] k (fun kq v3 v4 w' => ∃ (x3_1 : List (S78)) (x4_1 : Int), v4 = .int .i64 x4_1 ∧ Az_ (soriteslaw11_Of.l0 kq l0 x3_1 x4_1 = some r) ∧ Az_ (kq ≤ k) ∧ Az_ (Kd.R k78 78 w' w.heap.size (fun _ => True) v3 x3_1) ∧ Az_ (Below w.heap.size w w'))
 case atStart => exact ⟨(([] : List (S78))), (0), sq_, H', ⟨Nat.le_refl _⟩, ⟨by first | exact Kd.R_nil _ _ _ _ _ | exact Kd.N_nil _ _ _ _ _ | exact Kd.V_nil _ _ _ _ _ | exact Kd.Q_nil _ _ _ _ _ | exact Kd.S_nil _ _ _ _ _⟩, ⟨bq_ HB⟩⟩
 case round =>
  clear H'
  obtain ⟨x3_1, x4_1, rfl, HA, HK1, HO_3, HB⟩ := hrel
  cases gk with
  | zero => exact absurd HA.out (by simp [soriteslaw11_Of.l0])
  | succ k1 =>
   have H := HA.out
   clear HA
   simp only [soriteslaw11_Of.l0] at H
   by_cases c2 : x4_1 < (l0.length : Int)
   ·rw [if_pos c2] at H
    have c2b0 : decide (x4_1 < (l0.length : Int)) = true := decide_eq_true c2
    clear c2
    by_cases c3 : 0 ≤ x4_1
    ·rw [if_pos c3] at H
     have c3b0 : decide (0 ≤ x4_1) = true := decide_eq_true c3
     clear c3
     replace H := Option.bind_eq_some_iff.mp H
     obtain ⟨⟨t394, t395⟩, A40, H⟩ := H
     replace H : ((soriteslaw06_Of.f k1 ((rd_T81 l0 x4_1).f2.f0) ((rd_T81 l0 x4_1).f2.f1)).bind fun bt399 => (if x3_1.length < 1954687338268 then (soriteslaw11_Of.l0 k1 l0 (x3_1 ++ [(⟨(rd_T81 l0 x4_1).f0, (⟨t394, t395⟩ : S30), (⟨bt399.1, bt399.2⟩ : S30)⟩ : S78)]) (wrap64 (x4_1 + 1))) else (none))) = some r := H
     have A4 := Az_.mk A40
     clear A40
     replace H := Option.bind_eq_some_iff.mp H
     obtain ⟨⟨t399, t400⟩, A50, H⟩ := H
     replace H : (if x3_1.length < 1954687338268 then (soriteslaw11_Of.l0 k1 l0 (x3_1 ++ [(⟨(rd_T81 l0 x4_1).f0, (⟨t394, t395⟩ : S30), (⟨t399, t400⟩ : S30)⟩ : S78)]) (wrap64 (x4_1 + 1))) else (none)) = some r := H
     have A5 := Az_.mk A50
     clear A50
     by_cases c6 : x3_1.length < 1954687338268
     ·rw [if_pos c6] at H
      have LMc6 := Az_.mk c6
      clear c6
      obtain ⟨y403, hy403⟩ : ∃ y_ : List (S78), y_ = (x3_1 ++ [(⟨(rd_T81 l0 x4_1).f0, (⟨t394, t395⟩ : S30), (⟨t399, t400⟩ : S30)⟩ : S78)]) := ⟨_, rfl⟩
      replace H : (soriteslaw11_Of.l0 k1 l0 y403 (wrap64 (x4_1 + 1))) = some r := by first | (rw [hy403]; with_reducible exact H) | (have H2_ := (Option.bind_some _ _).symm.trans H; rw [hy403]; with_reducible exact H2_) | (have H2_ := (Option.bind_some _ _).symm.trans H; with_reducible exact H2_) | with_reducible exact H | (rw [hy403]; exact H) | exact H
      have Ny403 := Az_.mk hy403
      clear hy403
      have H' := Az_.mk H
      clear H
      try go_wp2
      replace HO_3 := Az_.mk (Kd.R_drew HO_3.out)
      replace HB := Az_.mk (bD_ HB.out)
      have p392 : 0 ≤ (x4_1 : Int) := of_decide_eq_true (by first | (with_reducible assumption) | assumption)
      have q392 : x4_1 < (l0.length : Int) := of_decide_eq_true (by first | (with_reducible assumption) | assumption)
      obtain ⟨ad392, A392_2, c392_2, A392_4, c392_4, e392, hx392_0, hx392_1, hx392_2, hx392_3, hx392_4, hl392_2, hi392_2, hl392_4, hi392_4⟩ := at_T81 HR0.out x4_1 p392 q392
      have hw392_4 := hx392_4
      have hw392_3 := hx392_3
      have hw392_2 := hx392_2
      have hw392_1 := hx392_1
      have hw392_0 := hx392_0
      cases e392
      replace hx392_0 := (HB.out.cell (World.block_lt_of_cell? w _ hx392_0)).trans hx392_0
      replace hx392_1 := (HB.out.cell (World.block_lt_of_cell? w _ hx392_1)).trans hx392_1
      replace hx392_2 := (HB.out.cell (World.block_lt_of_cell? w _ hx392_2)).trans hx392_2
      replace hx392_3 := (HB.out.cell (World.block_lt_of_cell? w _ hx392_3)).trans hx392_3
      replace hx392_4 := (HB.out.cell (World.block_lt_of_cell? w _ hx392_4)).trans hx392_4
      have HR392_2 := Az_.mk hi392_2
      have HC392_2 := Az_.mk hl392_2
      clear hi392_2 hl392_2
      have HR392_4 := Az_.mk hi392_4
      have HC392_4 := Az_.mk hl392_4
      clear hi392_4 hl392_4
      replace p392 := eq_true p392
      replace q392 := eq_true q392
      have p393 : 0 ≤ (x4_1 : Int) := of_decide_eq_true (by first | (with_reducible assumption) | assumption)
      have q393 : x4_1 < (l0.length : Int) := of_decide_eq_true (by first | (with_reducible assumption) | assumption)
      obtain ⟨ad393, A393_2, c393_2, A393_4, c393_4, e393, hx393_0, hx393_1, hx393_2, hx393_3, hx393_4, hl393_2, hi393_2, hl393_4, hi393_4⟩ := at_T81 HR0.out x4_1 p393 q393
      have hw393_4 := hx393_4
      have hw393_3 := hx393_3
      have hw393_2 := hx393_2
      have hw393_1 := hx393_1
      have hw393_0 := hx393_0
      obtain rfl : ad392 = ad393 := (by injection e393)
      replace hx393_0 := (HB.out.cell (World.block_lt_of_cell? w _ hx393_0)).trans hx393_0
      replace hx393_1 := (HB.out.cell (World.block_lt_of_cell? w _ hx393_1)).trans hx393_1
      replace hx393_2 := (HB.out.cell (World.block_lt_of_cell? w _ hx393_2)).trans hx393_2
      replace hx393_3 := (HB.out.cell (World.block_lt_of_cell? w _ hx393_3)).trans hx393_3
      replace hx393_4 := (HB.out.cell (World.block_lt_of_cell? w _ hx393_4)).trans hx393_4
      have HR393_2 := Az_.mk hi393_2
      have HC393_2 := Az_.mk hl393_2
      clear hi393_2 hl393_2
      have HR393_4 := Az_.mk hi393_4
      have HC393_4 := Az_.mk hl393_4
      clear hi393_4 hl393_4
      replace p393 := eq_true p393
      replace q393 := eq_true q393
      have ea_ := Option.some.inj (hx392_2.symm.trans hx393_2)
      injection ea_ with ea_ en_ ec_
      subst ea_
      subst ec_
      clear en_
      have ea_ := Option.some.inj (hx392_4.symm.trans hx393_4)
      injection ea_ with ea_ en_ ec_
      subst ea_
      subst ec_
      clear en_
      have p398 : 0 ≤ (x4_1 : Int) := of_decide_eq_true (by first | (with_reducible assumption) | assumption)
      have q398 : x4_1 < (l0.length : Int) := of_decide_eq_true (by first | (with_reducible assumption) | assumption)
      obtain ⟨ad398, A398_2, c398_2, A398_4, c398_4, e398, hx398_0, hx398_1, hx398_2, hx398_3, hx398_4, hl398_2, hi398_2, hl398_4, hi398_4⟩ := at_T81 HR0.out x4_1 p398 q398
      have hw398_4 := hx398_4
      have hw398_3 := hx398_3
      have hw398_2 := hx398_2
      have hw398_1 := hx398_1
      have hw398_0 := hx398_0
      obtain rfl : ad392 = ad398 := (by injection e398)
      replace hx398_0 := (HB.out.cell (World.block_lt_of_cell? w _ hx398_0)).trans hx398_0
      replace hx398_1 := (HB.out.cell (World.block_lt_of_cell? w _ hx398_1)).trans hx398_1
      replace hx398_2 := (HB.out.cell (World.block_lt_of_cell? w _ hx398_2)).trans hx398_2
      replace hx398_3 := (HB.out.cell (World.block_lt_of_cell? w _ hx398_3)).trans hx398_3
      replace hx398_4 := (HB.out.cell (World.block_lt_of_cell? w _ hx398_4)).trans hx398_4
      have HR398_2 := Az_.mk hi398_2
      have HC398_2 := Az_.mk hl398_2
      clear hi398_2 hl398_2
      have HR398_4 := Az_.mk hi398_4
      have HC398_4 := Az_.mk hl398_4
      clear hi398_4 hl398_4
      replace p398 := eq_true p398
      replace q398 := eq_true q398
      have ea_ := Option.some.inj (hx392_2.symm.trans hx398_2)
      injection ea_ with ea_ en_ ec_
      subst ea_
      subst ec_
      clear en_
      have ea_ := Option.some.inj (hx392_4.symm.trans hx398_4)
      injection ea_ with ea_ en_ ec_
      subst ea_
      subst ec_
      clear en_
      refine start_ (n := 22) (S := fun w' => w'.cell? (ad392.add ((x4_1).toNat * 5)) = some (.bool ((rd_T81 l0 x4_1).f0)) ∧ w'.cell? ⟨(ad392.add ((x4_1).toNat * 5)).block, (ad392.add ((x4_1).toNat * 5)).off + 1, none⟩ = some (.int .i64 ((rd_T81 l0 x4_1).f1.f0)) ∧ w'.cell? ⟨(ad392.add ((x4_1).toNat * 5)).block, (ad392.add ((x4_1).toNat * 5)).off + 2, none⟩ = some (.slice A392_2 ((rd_T81 l0 x4_1).f1.f1).length c392_2) ∧ w'.cell? ⟨(ad392.add ((x4_1).toNat * 5)).block, (ad392.add ((x4_1).toNat * 5)).off + 3, none⟩ = some (.int .i64 ((rd_T81 l0 x4_1).f2.f0)) ∧ w'.cell? ⟨(ad392.add ((x4_1).toNat * 5)).block, (ad392.add ((x4_1).toNat * 5)).off + 4, none⟩ = some (.slice A392_4 ((rd_T81 l0 x4_1).f2.f1).length c392_4) ∧ w'.cell? (ad392.add ((x4_1).toNat * 5)) = some (.bool ((rd_T81 l0 x4_1).f0)) ∧ w'.cell? ⟨(ad392.add ((x4_1).toNat * 5)).block, (ad392.add ((x4_1).toNat * 5)).off + 1, none⟩ = some (.int .i64 ((rd_T81 l0 x4_1).f1.f0)) ∧ w'.cell? ⟨(ad392.add ((x4_1).toNat * 5)).block, (ad392.add ((x4_1).toNat * 5)).off + 2, none⟩ = some (.slice A392_2 ((rd_T81 l0 x4_1).f1.f1).length c392_2) ∧ w'.cell? ⟨(ad392.add ((x4_1).toNat * 5)).block, (ad392.add ((x4_1).toNat * 5)).off + 3, none⟩ = some (.int .i64 ((rd_T81 l0 x4_1).f2.f0)) ∧ w'.cell? ⟨(ad392.add ((x4_1).toNat * 5)).block, (ad392.add ((x4_1).toNat * 5)).off + 4, none⟩ = some (.slice A392_4 ((rd_T81 l0 x4_1).f2.f1).length c392_4) ∧ w'.cell? (ad392.add ((x4_1).toNat * 5)) = some (.bool ((rd_T81 l0 x4_1).f0)) ∧ w'.cell? ⟨(ad392.add ((x4_1).toNat * 5)).block, (ad392.add ((x4_1).toNat * 5)).off + 1, none⟩ = some (.int .i64 ((rd_T81 l0 x4_1).f1.f0)) ∧ w'.cell? ⟨(ad392.add ((x4_1).toNat * 5)).block, (ad392.add ((x4_1).toNat * 5)).off + 2, none⟩ = some (.slice A392_2 ((rd_T81 l0 x4_1).f1.f1).length c392_2) ∧ w'.cell? ⟨(ad392.add ((x4_1).toNat * 5)).block, (ad392.add ((x4_1).toNat * 5)).off + 3, none⟩ = some (.int .i64 ((rd_T81 l0 x4_1).f2.f0)) ∧ w'.cell? ⟨(ad392.add ((x4_1).toNat * 5)).block, (ad392.add ((x4_1).toNat * 5)).off + 4, none⟩ = some (.slice A392_4 ((rd_T81 l0 x4_1).f2.f1).length c392_4)) (ds := []) #[false, false, false, false, false, false, false, false, false, false, false, false, false, false, false, false, false, false, false, false, false, false] (by kernel_rfl) rfl rfl ⟨((HB.out.cell (World.block_lt_of_cell? w _ hw392_0)).trans hw392_0), ((HB.out.cell (World.block_lt_of_cell? w _ hw392_1)).trans hw392_1), ((HB.out.cell (World.block_lt_of_cell? w _ hw392_2)).trans hw392_2), ((HB.out.cell (World.block_lt_of_cell? w _ hw392_3)).trans hw392_3), ((HB.out.cell (World.block_lt_of_cell? w _ hw392_4)).trans hw392_4), ((HB.out.cell (World.block_lt_of_cell? w _ hw393_0)).trans hw393_0), ((HB.out.cell (World.block_lt_of_cell? w _ hw393_1)).trans hw393_1), ((HB.out.cell (World.block_lt_of_cell? w _ hw393_2)).trans hw393_2), ((HB.out.cell (World.block_lt_of_cell? w _ hw393_3)).trans hw393_3), ((HB.out.cell (World.block_lt_of_cell? w _ hw393_4)).trans hw393_4), ((HB.out.cell (World.block_lt_of_cell? w _ hw398_0)).trans hw398_0), ((HB.out.cell (World.block_lt_of_cell? w _ hw398_1)).trans hw398_1), ((HB.out.cell (World.block_lt_of_cell? w _ hw398_2)).trans hw398_2), ((HB.out.cell (World.block_lt_of_cell? w _ hw398_3)).trans hw398_3), ((HB.out.cell (World.block_lt_of_cell? w _ hw398_4)).trans hw398_4)⟩ (fun hHeld => ?_); refine with_tabW soriteslaw11_Of.tab5 soriteslaw11_Of.bits5 (fun HT_ HW_ => ?_)
      generalize wr.drew = w7 at HO_3 HB HR392_2 HR392_4 HR393_2 HR393_4 HR398_2 HR398_4 hx392_0 hx392_1 hx392_2 hx392_3 hx392_4 hx393_0 hx393_1 hx393_2 hx393_3 hx393_4 hx398_0 hx398_1 hx398_2 hx398_3 hx398_4 hHeld ⊢
      refine pa_ 0 11 HT_ ?_
      refine pa_ 1 12 HT_ ?_
      refine pa_ 2 13 HT_ ?_
      refine pa_ 3 14 HT_ ?_
      refine pa_ 4 15 HT_ ?_
      refine pa_ 6 17 HT_ ?_
      refine pa_ 7 18 HT_ ?_
      refine pa_ 8 19 HT_ ?_
      refine pa_ 9 20 HT_ ?_
      refine pa_ 12 23 HT_ ?_
      refine pa_ 13 24 HT_ ?_
      refine pa_ 14 25 HT_ ?_
      refine pa_ 15 26 HT_ ?_
      refine ta15_ 5 16 HT_ HW_ hHeld ?_
      refine ta15_ 10 21 HT_ HW_ hHeld ?_
      refine ta15_ 16 27 HT_ HW_ hHeld ?_
      refine one_ (i := 11) (N := some 22) #[true, true, true, true, true, true, true, true, true, true, true, true, true, true, true, true, true, false, false, false, false, false] rfl rfl (one_of HT_.out (by kernel_rfl)) (by decide) (fun K hK => ?_)
      refine goes_ Try.func22 (by kernel_rfl) rfl #[.agg #[.int .i64 ((rd_T81 l0 x4_1).f1.f0), .slice A392_2 ((rd_T81 l0 x4_1).f1.f1).length c392_2]] (by rfl) rfl rfl mq_ ?_
      with_reducible refine (soriteslaw06_Of.calls k1 ((rd_T81 l0 x4_1).f1.f0) _ _ ((rd_T81 l0 x4_1).f1.f1) t394 t395 _ ?side1 ?side2 A4.out).mono ?_
      (case side1 => exact cq_ (Kd.C_below HR393_2.out HB.out))
      (case side2 => exact HC393_2.out)
      rintro e w8 ⟨v396, rfl, ho0, hb⟩
      refine ⟨_, rfl, ?_⟩
      replace HO_3 := Az_.mk (Kd.R_elder' (rr_ HO_3) (Kd.R_base ho0) hb)
      have HO397 := Az_.mk (Kd.R_lower ho0 (bZ_ (bq_ HB)))
      replace HB := Az_.mk (bT_ (bq_ HB) hb)
      (try clear hb)
      (try clear hb2)
      (try clear hk)
      (try clear hi)
      (try clear ho0)
      refine hK.out _ _ ⟨((HB.out.cell (World.block_lt_of_cell? w _ hw392_0)).trans hw392_0), ((HB.out.cell (World.block_lt_of_cell? w _ hw392_1)).trans hw392_1), ((HB.out.cell (World.block_lt_of_cell? w _ hw392_2)).trans hw392_2), ((HB.out.cell (World.block_lt_of_cell? w _ hw392_3)).trans hw392_3), ((HB.out.cell (World.block_lt_of_cell? w _ hw392_4)).trans hw392_4), ((HB.out.cell (World.block_lt_of_cell? w _ hw393_0)).trans hw393_0), ((HB.out.cell (World.block_lt_of_cell? w _ hw393_1)).trans hw393_1), ((HB.out.cell (World.block_lt_of_cell? w _ hw393_2)).trans hw393_2), ((HB.out.cell (World.block_lt_of_cell? w _ hw393_3)).trans hw393_3), ((HB.out.cell (World.block_lt_of_cell? w _ hw393_4)).trans hw393_4), ((HB.out.cell (World.block_lt_of_cell? w _ hw398_0)).trans hw398_0), ((HB.out.cell (World.block_lt_of_cell? w _ hw398_1)).trans hw398_1), ((HB.out.cell (World.block_lt_of_cell? w _ hw398_2)).trans hw398_2), ((HB.out.cell (World.block_lt_of_cell? w _ hw398_3)).trans hw398_3), ((HB.out.cell (World.block_lt_of_cell? w _ hw398_4)).trans hw398_4)⟩ (fun hHeld => ?_)
      clear hK K
      refine norm_ (a' := ?_) ?_ ?_
      rotate_left
      ·show Act.put _ (some 22) _ = _
       simp only [Act.put, sA_, sZ_, sS_, i64_w, i32_w]
       rfl
      refine one_ (i := 17) (N := some 28) #[true, true, true, true, true, true, true, true, true, true, true, true, true, true, true, true, true, true, false, false, false, false] rfl rfl (one_of HT_.out (by kernel_rfl)) (by decide) (fun K hK => ?_)
      refine goes_ Try.func22 (by kernel_rfl) rfl #[.agg #[.int .i64 ((rd_T81 l0 x4_1).f2.f0), .slice A392_4 ((rd_T81 l0 x4_1).f2.f1).length c392_4]] (by rfl) rfl rfl mq_ ?_
      with_reducible refine (soriteslaw06_Of.calls k1 ((rd_T81 l0 x4_1).f2.f0) _ _ ((rd_T81 l0 x4_1).f2.f1) t399 t400 _ ?side1 ?side2 A5.out).mono ?_
      (case side1 => exact cq_ (Kd.C_below HR398_4.out HB.out))
      (case side2 => exact HC398_4.out)
      rintro e w9 ⟨v401, rfl, ho0, hb⟩
      refine ⟨_, rfl, ?_⟩
      replace HO_3 := Az_.mk (Kd.R_elder' (rr_ HO_3) (Kd.R_base ho0) hb)
      have HO402 := Az_.mk (Kd.R_lower (Kd.R_new' ho0 (Kd.R_lt (rr_ HO397))) (bZ_ (bq_ HB)))
      replace HO397 := Az_.mk (Kd.R_elder' (rr_ HO397) (Kd.R_base ho0) hb)
      replace HB := Az_.mk (bT_ (bq_ HB) hb)
      (try clear hb)
      (try clear hb2)
      (try clear hk)
      (try clear hi)
      (try clear ho0)
      obtain ⟨Ao10, co10, eo10⟩ := Kd.R_slice HO402.out
      (first | subst eo10 | (injection eo10 with f1_ f2_ f3_; have f4_ := f1_.symm; have f5_ := f3_.symm; clear f1_ f2_ f3_; subst f4_; subst f5_))
      obtain ⟨Ao11, co11, eo11⟩ := Kd.R_slice HO397.out
      (first | subst eo11 | (injection eo11 with f1_ f2_ f3_; have f4_ := f1_.symm; have f5_ := f3_.symm; clear f1_ f2_ f3_; subst f4_; subst f5_))
      refine hK.out _ _ ⟨((HB.out.cell (World.block_lt_of_cell? w _ hw392_0)).trans hw392_0), ((HB.out.cell (World.block_lt_of_cell? w _ hw392_1)).trans hw392_1), ((HB.out.cell (World.block_lt_of_cell? w _ hw392_2)).trans hw392_2), ((HB.out.cell (World.block_lt_of_cell? w _ hw392_3)).trans hw392_3), ((HB.out.cell (World.block_lt_of_cell? w _ hw392_4)).trans hw392_4), ((HB.out.cell (World.block_lt_of_cell? w _ hw393_0)).trans hw393_0), ((HB.out.cell (World.block_lt_of_cell? w _ hw393_1)).trans hw393_1), ((HB.out.cell (World.block_lt_of_cell? w _ hw393_2)).trans hw393_2), ((HB.out.cell (World.block_lt_of_cell? w _ hw393_3)).trans hw393_3), ((HB.out.cell (World.block_lt_of_cell? w _ hw393_4)).trans hw393_4), ((HB.out.cell (World.block_lt_of_cell? w _ hw398_0)).trans hw398_0), ((HB.out.cell (World.block_lt_of_cell? w _ hw398_1)).trans hw398_1), ((HB.out.cell (World.block_lt_of_cell? w _ hw398_2)).trans hw398_2), ((HB.out.cell (World.block_lt_of_cell? w _ hw398_3)).trans hw398_3), ((HB.out.cell (World.block_lt_of_cell? w _ hw398_4)).trans hw398_4)⟩ (fun hHeld => ?_)
      clear hK K
      refine norm_ (a' := ?_) ?_ ?_
      rotate_left
      ·show Act.put _ (some 28) _ = _
       simp only [Act.put, sA_, sZ_, sS_, i64_w, i32_w]
       rfl
      refine pa_ 18 29 HT_ ?_
      refine one_ (i := 19) (N := some 30) #[true, true, true, true, true, true, true, true, true, true, true, true, true, true, true, true, true, true, true, true, false, false] rfl rfl (one_of HT_.out (by kernel_rfl)) (by decide) (fun K hK => ?_)
      refine value_ (w1 := ?_) (v := ?_) (by rfl) rfl ?_ ?_
      rotate_left 2
      ·go_simp
       constructor
       ·rfl
       ·rfl
      refine hK.out _ _ ⟨(World.cell?_alloc_lt _ _ _ (World.block_lt_of_cell? _ _ (((HB.out.cell (World.block_lt_of_cell? w _ hw392_0)).trans hw392_0)))).trans (((HB.out.cell (World.block_lt_of_cell? w _ hw392_0)).trans hw392_0)), (World.cell?_alloc_lt _ _ _ (World.block_lt_of_cell? _ _ (((HB.out.cell (World.block_lt_of_cell? w _ hw392_1)).trans hw392_1)))).trans (((HB.out.cell (World.block_lt_of_cell? w _ hw392_1)).trans hw392_1)), (World.cell?_alloc_lt _ _ _ (World.block_lt_of_cell? _ _ (((HB.out.cell (World.block_lt_of_cell? w _ hw392_2)).trans hw392_2)))).trans (((HB.out.cell (World.block_lt_of_cell? w _ hw392_2)).trans hw392_2)), (World.cell?_alloc_lt _ _ _ (World.block_lt_of_cell? _ _ (((HB.out.cell (World.block_lt_of_cell? w _ hw392_3)).trans hw392_3)))).trans (((HB.out.cell (World.block_lt_of_cell? w _ hw392_3)).trans hw392_3)), (World.cell?_alloc_lt _ _ _ (World.block_lt_of_cell? _ _ (((HB.out.cell (World.block_lt_of_cell? w _ hw392_4)).trans hw392_4)))).trans (((HB.out.cell (World.block_lt_of_cell? w _ hw392_4)).trans hw392_4)), (World.cell?_alloc_lt _ _ _ (World.block_lt_of_cell? _ _ (((HB.out.cell (World.block_lt_of_cell? w _ hw393_0)).trans hw393_0)))).trans (((HB.out.cell (World.block_lt_of_cell? w _ hw393_0)).trans hw393_0)), (World.cell?_alloc_lt _ _ _ (World.block_lt_of_cell? _ _ (((HB.out.cell (World.block_lt_of_cell? w _ hw393_1)).trans hw393_1)))).trans (((HB.out.cell (World.block_lt_of_cell? w _ hw393_1)).trans hw393_1)), (World.cell?_alloc_lt _ _ _ (World.block_lt_of_cell? _ _ (((HB.out.cell (World.block_lt_of_cell? w _ hw393_2)).trans hw393_2)))).trans (((HB.out.cell (World.block_lt_of_cell? w _ hw393_2)).trans hw393_2)), (World.cell?_alloc_lt _ _ _ (World.block_lt_of_cell? _ _ (((HB.out.cell (World.block_lt_of_cell? w _ hw393_3)).trans hw393_3)))).trans (((HB.out.cell (World.block_lt_of_cell? w _ hw393_3)).trans hw393_3)), (World.cell?_alloc_lt _ _ _ (World.block_lt_of_cell? _ _ (((HB.out.cell (World.block_lt_of_cell? w _ hw393_4)).trans hw393_4)))).trans (((HB.out.cell (World.block_lt_of_cell? w _ hw393_4)).trans hw393_4)), (World.cell?_alloc_lt _ _ _ (World.block_lt_of_cell? _ _ (((HB.out.cell (World.block_lt_of_cell? w _ hw398_0)).trans hw398_0)))).trans (((HB.out.cell (World.block_lt_of_cell? w _ hw398_0)).trans hw398_0)), (World.cell?_alloc_lt _ _ _ (World.block_lt_of_cell? _ _ (((HB.out.cell (World.block_lt_of_cell? w _ hw398_1)).trans hw398_1)))).trans (((HB.out.cell (World.block_lt_of_cell? w _ hw398_1)).trans hw398_1)), (World.cell?_alloc_lt _ _ _ (World.block_lt_of_cell? _ _ (((HB.out.cell (World.block_lt_of_cell? w _ hw398_2)).trans hw398_2)))).trans (((HB.out.cell (World.block_lt_of_cell? w _ hw398_2)).trans hw398_2)), (World.cell?_alloc_lt _ _ _ (World.block_lt_of_cell? _ _ (((HB.out.cell (World.block_lt_of_cell? w _ hw398_3)).trans hw398_3)))).trans (((HB.out.cell (World.block_lt_of_cell? w _ hw398_3)).trans hw398_3)), (World.cell?_alloc_lt _ _ _ (World.block_lt_of_cell? _ _ (((HB.out.cell (World.block_lt_of_cell? w _ hw398_4)).trans hw398_4)))).trans (((HB.out.cell (World.block_lt_of_cell? w _ hw398_4)).trans hw398_4))⟩ (fun hHeld => ?_)
      clear hK K
      refine norm_ (a' := ?_) ?_ ?_
      rotate_left
      ·show Act.put _ (some 30) _ = _
       simp only [Act.put, sA_, sZ_, sS_, i64_w, i32_w]
       rfl
      refine one_ (i := 20) (N := some 31) #[true, true, true, true, true, true, true, true, true, true, true, true, true, true, true, true, true, true, true, true, true, false] rfl rfl (one_of HT_.out (by kernel_rfl)) (by decide) (fun K hK => ?_)
      refine Kd.R_append_step k78 (w0 := w) w.heap.size (by rfl) (.tmp 11) (.tmp 30) 68 78 (.agg #[(.bool false), (.int .i64 0), (.slice none 0 0), (.int .i64 0), (.slice none 0 0)]) 72 rfl Try.underlying68 info78 rfl (by decide) (by omega) u3 x3_1 (⟨(rd_T81 l0 x4_1).f0, (⟨t394, t395⟩ : S30), (⟨t399, t400⟩ : S30)⟩ : S78) [.bool ((rd_T81 l0 x4_1).f0), .int .i64 t394, .slice Ao11 t395.length co11, .int .i64 t399, .slice Ao10 t400.length co10] (fun _ => True) (fun k_ => ((fun _ => True)) k_ ∧ some k_ ≠ (u3 : Value).ownBlock) rfl rfl ?aP (fun _ hk => hk) ?aF ?aO ?aB ?aS ?aL ?_
      (case aP => exact k78_mkM _ _ _ (⟨(rd_T81 l0 x4_1).f0, (⟨t394, t395⟩ : S30), (⟨t399, t400⟩ : S30)⟩ : S78) (Kd.R_mono (Kd.R_apart' (HO397.out) (Kd.R_typed HO_3.out) (by decide)) (fun k_ hk => ⟨trivial, hk.2⟩)) (Kd.R_mono (Kd.R_apart' (HO402.out) (Kd.R_typed HO_3.out) (by decide)) (fun k_ hk => ⟨trivial, hk.2⟩)))
      (case aB => exact (bq_ HB))
      (case aF => exact (fun _ _ => trivial))
      (case aO => exact (by (with_reducible repeat (first | apply Kd.R_alloc | apply Kd.R_drewN | apply Kd.R_drew)); exact Kd.R_mono HO_3.out (fun _ hk => trivial)))
      (case aS => exact (bZ_ (bq_ HB)))
      (case aL => have := LMc6.out; omega)
      intro v404 w12 ho hb hg hat
      rw [← Ny403.out] at ho
      have n0_ := Az_.mk (hb)
      have n1_ := Az_.mk (ho)
      clear HB
      clear HO_3
      clear HO397
      clear HO402
      have HB := n0_
      have HO405 := n1_
      clear n0_ n1_
      clear ho hb hg hat
      refine hK.out _ _ ⟨((HB.out.cell (World.block_lt_of_cell? w _ hw392_0)).trans hw392_0), ((HB.out.cell (World.block_lt_of_cell? w _ hw392_1)).trans hw392_1), ((HB.out.cell (World.block_lt_of_cell? w _ hw392_2)).trans hw392_2), ((HB.out.cell (World.block_lt_of_cell? w _ hw392_3)).trans hw392_3), ((HB.out.cell (World.block_lt_of_cell? w _ hw392_4)).trans hw392_4), ((HB.out.cell (World.block_lt_of_cell? w _ hw393_0)).trans hw393_0), ((HB.out.cell (World.block_lt_of_cell? w _ hw393_1)).trans hw393_1), ((HB.out.cell (World.block_lt_of_cell? w _ hw393_2)).trans hw393_2), ((HB.out.cell (World.block_lt_of_cell? w _ hw393_3)).trans hw393_3), ((HB.out.cell (World.block_lt_of_cell? w _ hw393_4)).trans hw393_4), ((HB.out.cell (World.block_lt_of_cell? w _ hw398_0)).trans hw398_0), ((HB.out.cell (World.block_lt_of_cell? w _ hw398_1)).trans hw398_1), ((HB.out.cell (World.block_lt_of_cell? w _ hw398_2)).trans hw398_2), ((HB.out.cell (World.block_lt_of_cell? w _ hw398_3)).trans hw398_3), ((HB.out.cell (World.block_lt_of_cell? w _ hw398_4)).trans hw398_4)⟩ (fun hHeld => ?_)
      clear hK K
      refine norm_ (a' := ?_) ?_ ?_
      rotate_left
      ·show Act.put _ (some 31) _ = _
       simp only [Act.put, sA_, sZ_, sS_, i64_w, i32_w]
       rfl
      refine pa_ 21 3 HT_ ?_
      refine done_ (done_of HT_.out (by kernel_rfl)) ?_
      try go_wp2
      go_roundg k1
      case measure => have := HK1.out; omega
      case rel => exact ⟨(y403), (wrap64 (x4_1 + 1)), sq_, H', ⟨by have := HK1.out; omega⟩, ⟨by (with_reducible repeat (first | apply Kd.R_alloc | apply Kd.R_drewN | apply Kd.R_drew)); exact HO405.out⟩, ⟨bq_ HB⟩⟩
     ·rw [if_neg c6] at H
      exact absurd H (by simp)
    ·rw [if_neg c3] at H
     exact absurd H (by simp)
   ·rw [if_neg c2] at H
    have c2b0 : decide (x4_1 < (l0.length : Int)) = false := decide_eq_false c2
    clear c2
    obtain rfl := Option.some.inj H
    go_wp2
    go_ret
    exact ⟨_, by first | rfl | (simp [yad_, yac_] <;> rfl) | (simp [*, yad_, yac_] <;> rfl), by (with_reducible repeat (first | apply Kd.R_alloc | apply Kd.R_drewN | apply Kd.R_drew)); exact HO_3.out, bq_ HB⟩
end
section
attribute [local go_sem] max2_int min2_int max_two min_two yal_ yak_ max_four min_four
def soritesref14_Greatest.l0 : Nat → List (S81) → Int → Int → Option (Bool)
 | 0, _, _, _ => none
 | k + 1, x0, x1, x5 => if x5 < (x0.length : Int) then (if 0 ≤ x5 then (if 0 ≤ x1 then (if x1 < (x0.length : Int) then ((soritesref14_Greater.f k ((rd_T81 x0 x5).f0) ((rd_T81 x0 x5).f1.f0) ((rd_T81 x0 x5).f1.f1) ((rd_T81 x0 x5).f2.f0) ((rd_T81 x0 x5).f2.f1) ((rd_T81 x0 x1).f0) ((rd_T81 x0 x1).f1.f0) ((rd_T81 x0 x1).f1.f1) ((rd_T81 x0 x1).f2.f0) ((rd_T81 x0 x1).f2.f1)).bind fun t445 => (if t445 = true then (some false) else (soritesref14_Greatest.l0 k x0 x1 (wrap64 (x5 + 1))))) else (none)) else (none)) else (none)) else (some true)
def soritesref14_Greatest.f (k : Nat) (l0 : List (S81)) (a1 : Int) : Option (Bool) := soritesref14_Greatest.l0 k l0 a1 0
end
section
attribute [local go_sem] max2_int min2_int max_two min_two yal_ yak_ max_four min_four
def soritesref14_weight.f (k : Nat) (a0_0 : Bool) (a0_1 : Int) (l0_2 : List (S24)) (a0_3 : Int) (l0_4 : List (S24)) : Option (Int) := (soritesref06_Flat.f k a0_1 l0_2).bind fun t449 => ((soritesref06_Flat.f k a0_3 l0_4).bind fun t452 => (some (wrap64 ((t449.length : Int) + (t452.length : Int)))))
end
end Go.Proofs.Ytpfddihcikiofaa.P
