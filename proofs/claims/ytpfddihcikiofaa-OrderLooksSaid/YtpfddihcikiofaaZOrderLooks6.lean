/- The law OrderLooks holds of every input. Part 6 of 7: PxOrderLooked, PxSoriteslaw14Alive, PxSoriteslaw11Fine, PxSoriteslaw11Of, PxSoritesref14Greatest, PxSoritesref14SameInts, PxSoritesref14Weight, PxSoritesref14Looked. -/
import Derived.Test.YtpfddihcikiofaaZOrderLooks2
import Derived.Test.YtpfddihcikiofaaZOrderLooks5
import Derived.Test.YtpfddihcikiofaaZOrderLooks3
import Derived.Test.YtpfddihcikiofaaZOrderLooks1
import Derived.Test.YtpfddihcikiofaaZOrderLooks4
namespace Go.Proofs.Ytpfddihcikiofaa.P
open Go.RowKit Go.Proofs.YtpfddihcikiofaaW.PrintWords Go.Proofs.YtpfddihcikiofaaW.PrintLast Go.Proofs.YtpfddihcikiofaaW.PrintMore
set_option linter.unusedVariables false
set_option linter.unusedSimpArgs false
section
attribute [local go_sem] max2_int min2_int max_two min_two yal_ yak_ max_four min_four
mutual
def order_Looked.l0 : Nat → List (S78) → Int → List (S78) → Int → Int → Option (List Int)
 | 0, _, _, _, _, _ => none
 | k + 1, x0, x3, x8, x9, x10 => if x10 < x9 then (if 0 ≤ x10 then (if x10 < (x8.length : Int) then (if (rd_T78 x8 x10).f0 = true then (if x3 < 0 then (order_Looked.l0 k x0 x10 x8 x9 (wrap64 (x10 + 1))) else ((order_weight.f ((rd_T78 x8 x10).f0) ((rd_T78 x8 x10).f1.f0) ((rd_T78 x8 x10).f1.f1) ((rd_T78 x8 x10).f2.f0) ((rd_T78 x8 x10).f2.f1)).bind fun t368 => (if 0 ≤ x3 then (if x3 < (x0.length : Int) then ((order_weight.f ((rd_T78 x0 x3).f0) ((rd_T78 x0 x3).f1.f0) ((rd_T78 x0 x3).f1.f1) ((rd_T78 x0 x3).f2.f0) ((rd_T78 x0 x3).f2.f1)).bind fun t370 => (if t368 > t370 then (order_Looked.l0 k x0 x10 x8 x9 (wrap64 (x10 + 1))) else (order_Looked.l0 k x0 x3 x8 x9 (wrap64 (x10 + 1))))) else (none)) else (none)))) else (order_Looked.l0 k x0 x3 x8 x9 (wrap64 (x10 + 1)))) else (none)) else (none)) else (if x3 ≥ 0 then (some (([x3] : List Int))) else (order_Looked.l1 k x0 ([] : List Int) (x0.length : Int) 0))
def order_Looked.l1 : Nat → List (S78) → List Int → Int → Int → Option (List Int)
 | 0, _, _, _, _ => none
 | k + 1, x0, x6, x38, x39 => if x39 < x38 then ((order_Greatest.f x0 x39).bind fun t374 => (if t374 = true then (if x6.length < 17592186044416 then (order_Looked.l1 k x0 (x6 ++ [x39]) x38 (wrap64 (x39 + 1))) else (none)) else (order_Looked.l1 k x0 x6 x38 (wrap64 (x39 + 1))))) else (some x6)
end
def order_Looked.f (k : Nat) (l0 : List (S78)) : Option (List Int) := order_Looked.l0 k l0 (-1) l0 (l0.length : Int) 0
def order_Looked.T5 : Bool × List (List Nat × List Nat) := (true, [([], []), ([0], [0]), ([1], [1]), ([2], [2]), ([3, 2], [2, 3]), ([4, 2, 2], [2, 4]), ([5], [5]), ([6, 5, 5], [5, 6]), ([5], [5]), ([5], [5]), ([8, 9, 5], [5, 8, 9]), ([10, 5], [5, 10]), ([11, 7, 5], [5, 11]), ([7, 12, 5], [5, 7, 12]), ([5, 13, 2], [2, 5, 13]), ([2, 14], [2, 14])])
def order_Looked.B5 : List Nat := [0, 1, 3, 7, 15, 31, 63, 127, 63, 63, 831, 1855, 4095, 8191, 16383, 32767]
theorem order_Looked.tab5 : rtab .any (opsOf Try.f58 5) = order_Looked.T5 := by kernel_rfl
theorem order_Looked.bits5 : waitsOk order_Looked.T5.2 order_Looked.B5 = true := by kernel_rfl
set_option maxHeartbeats 8000000 in
set_option maxRecDepth 100000 in
theorem order_Looked.calls (k : Nat) (A0 : Option Addr) (c0 : Nat) (l0 : List (S78)) (r : List Int) (w : World) (hr0 : Kd.C k78 w A0 l0.length l0) (hc0 : l0.length ≤ c0) (h : order_Looked.f k l0 = some r) :
  Calls Try.prog 58 #[.slice A0 l0.length c0] w fun e w' => ∃ v0_ : Value, e = .returned (v0_) ∧ Kd.R (Kd.int .i64) 3 w' w.heap.size (fun _ => True) v0_ r ∧ Below w.heap.size w w' := by
 have hu78 := Try.underlying78
 have HR0 := Az_.mk hr0
 have HC0 := Az_.mk hc0
 clear hr0 hc0
 have HB := Az_.mk (Below.refl w.heap.size w)
 have H : (order_Looked.l0 k l0 (-1) l0 (l0.length : Int) 0) = some r := h
 clear h
 have H' := Az_.mk H
 clear H
 go_enter Try.func58, Try.ntmps58
 go_wp2
 go_loopg [3, 10] k (fun kq v3 v10 w' => ∃ (x3_1 : Int) (x10_1 : Int), v3 = .int .i64 x3_1 ∧ v10 = .int .i64 x10_1 ∧ Az_ (order_Looked.l0 kq l0 x3_1 l0 (l0.length : Int) x10_1 = some r) ∧ Az_ (kq ≤ k) ∧ Az_ (Below w.heap.size w w'))
 case atStart => exact ⟨((-1)), (0), (by first | rfl | (simp; done) | (simp [*]; done)), (by first | rfl | (simp; done) | (simp [*]; done)), H', ⟨Nat.le_refl _⟩, ⟨by repeat (first | (with_reducible first | exact HB.out | apply bA_ | apply bN_ | apply bD_) | exact HB.out)⟩⟩
 case round =>
  clear H'
  obtain ⟨x3_1, x10_1, rfl, rfl, HA, HK1, HB⟩ := hrel
  cases gk with
  | zero => exact absurd HA.out (by simp [order_Looked.l0])
  | succ k1 =>
   have H := HA.out
   clear HA
   simp only [order_Looked.l0] at H
   by_cases c2 : x10_1 < (l0.length : Int)
   ·rw [if_pos c2] at H
    have c2b0 : decide (x10_1 < (l0.length : Int)) = true := decide_eq_true c2
    clear c2
    by_cases c3 : 0 ≤ x10_1
    ·rw [if_pos c3] at H
     have c3b0 : decide (0 ≤ x10_1) = true := decide_eq_true c3
     clear c3
     by_cases c4 : x10_1 < (l0.length : Int)
     ·rw [if_pos c4] at H
      have c4b0 : decide (x10_1 < (l0.length : Int)) = true := decide_eq_true c4
      clear c4
      obtain ⟨bq5, hbq5⟩ : ∃ b_ : Bool, b_ = ((rd_T78 l0 x10_1).f0) := ⟨_, rfl⟩
      replace H : (if bq5 = true then (if x3_1 < 0 then (order_Looked.l0 k1 l0 x10_1 l0 (l0.length : Int) (wrap64 (x10_1 + 1))) else ((order_weight.f (bq5) ((rd_T78 l0 x10_1).f1.f0) ((rd_T78 l0 x10_1).f1.f1) ((rd_T78 l0 x10_1).f2.f0) ((rd_T78 l0 x10_1).f2.f1)).bind fun t368 => (if 0 ≤ x3_1 then (if x3_1 < (l0.length : Int) then ((order_weight.f ((rd_T78 l0 x3_1).f0) ((rd_T78 l0 x3_1).f1.f0) ((rd_T78 l0 x3_1).f1.f1) ((rd_T78 l0 x3_1).f2.f0) ((rd_T78 l0 x3_1).f2.f1)).bind fun t370 => (if t368 > t370 then (order_Looked.l0 k1 l0 x10_1 l0 (l0.length : Int) (wrap64 (x10_1 + 1))) else (order_Looked.l0 k1 l0 x3_1 l0 (l0.length : Int) (wrap64 (x10_1 + 1))))) else (none)) else (none)))) else (order_Looked.l0 k1 l0 x3_1 l0 (l0.length : Int) (wrap64 (x10_1 + 1)))) = some r := by rw [← hbq5] at H; exact H
      have Nbq5 := Az_.mk hbq5
      clear hbq5
      by_cases c6 : bq5 = true
      ·subst c6
       have H1 : (if x3_1 < 0 then (order_Looked.l0 k1 l0 x10_1 l0 (l0.length : Int) (wrap64 (x10_1 + 1))) else ((order_weight.f (true) ((rd_T78 l0 x10_1).f1.f0) ((rd_T78 l0 x10_1).f1.f1) ((rd_T78 l0 x10_1).f2.f0) ((rd_T78 l0 x10_1).f2.f1)).bind fun t368 => (if 0 ≤ x3_1 then (if x3_1 < (l0.length : Int) then ((order_weight.f ((rd_T78 l0 x3_1).f0) ((rd_T78 l0 x3_1).f1.f0) ((rd_T78 l0 x3_1).f1.f1) ((rd_T78 l0 x3_1).f2.f0) ((rd_T78 l0 x3_1).f2.f1)).bind fun t370 => (if t368 > t370 then (order_Looked.l0 k1 l0 x10_1 l0 (l0.length : Int) (wrap64 (x10_1 + 1))) else (order_Looked.l0 k1 l0 x3_1 l0 (l0.length : Int) (wrap64 (x10_1 + 1))))) else (none)) else (none)))) = some r := by rw [if_pos rfl] at H; exact H
       clear H
       have H := H1
       clear H1
       by_cases c7 : x3_1 < 0
       ·rw [if_pos c7] at H
        have c7b0 : decide (x3_1 < 0) = true := decide_eq_true c7
        clear c7
        have H' := Az_.mk H
        clear H
        have p366 : 0 ≤ (x10_1 : Int) := of_decide_eq_true (by first | (with_reducible assumption) | assumption)
        have q366 : x10_1 < (l0.length : Int) := of_decide_eq_true (by first | (with_reducible assumption) | assumption)
        obtain ⟨ad366, A366_2, c366_2, A366_4, c366_4, e366, hx366_0, hx366_1, hx366_2, hx366_3, hx366_4, hl366_2, hi366_2, hl366_4, hi366_4⟩ := at_T78 HR0.out x10_1 p366 q366
        (try rw [← Nbq5.out] at hx366_0)
        cases e366
        replace hx366_0 := (HB.out.cell (World.block_lt_of_cell? w _ hx366_0)).trans hx366_0
        replace hx366_1 := (HB.out.cell (World.block_lt_of_cell? w _ hx366_1)).trans hx366_1
        replace hx366_2 := (HB.out.cell (World.block_lt_of_cell? w _ hx366_2)).trans hx366_2
        replace hx366_3 := (HB.out.cell (World.block_lt_of_cell? w _ hx366_3)).trans hx366_3
        replace hx366_4 := (HB.out.cell (World.block_lt_of_cell? w _ hx366_4)).trans hx366_4
        have HR366_2 := Az_.mk hi366_2
        have HC366_2 := Az_.mk hl366_2
        clear hi366_2 hl366_2
        have HR366_4 := Az_.mk hi366_4
        have HC366_4 := Az_.mk hl366_4
        clear hi366_4 hl366_4
        replace p366 := eq_true p366
        replace q366 := eq_true q366
        try go_wp2_with (first | ((with_reducible refine yah_ (N := 5) rfl ?_); refine yai_ ?hg (N := 5) ?hd (cs := #[.bool false, .int .i64 0, .slice none 0 0, .int .i64 0, .slice none 0 0]) (t := 78) ?hr ?_; (case hd => rfl); (case hg => rfl); (case hr => first | (go_simp; done) | (go_simp; rfl)); intro gb367 hg w8 hbox hb; have n0_ := Az_.mk (bT_ (by repeat (first | (with_reducible first | exact HB.out | apply bA_ | apply bN_ | apply bD_) | exact HB.out)) hb); have n1_ := Az_.mk (hbox); have n2_ := Az_.mk ((by rw [hg]; exact (bZ_ (by repeat (first | (with_reducible first | exact HB.out | apply bA_ | apply bN_ | apply bD_) | exact HB.out))) : w.heap.size ≤ gb367)); have n3_ := Az_.mk ((by rw [hg]; exact (bZ_ (by repeat (first | (with_reducible first | exact HB.out | apply bA_ | apply bN_ | apply bD_) | exact HB.out))) : w.heap.size ≤ gb367)); clear HB; have HB := n0_; have BK367 := n1_; have GW367 := n2_; have GE367 := n3_; clear n0_ n1_ n2_ n3_; clear hb hbox hg; have hcz9_0 : w8.cell? ⟨gb367, 0, none⟩ = some (.bool false) := (yaa_ BK367.out 0).trans rfl; have hcz9_1 : w8.cell? ⟨gb367, 1, none⟩ = some (.int .i64 0) := (yaa_ BK367.out 1).trans rfl; have hcz9_2 : w8.cell? ⟨gb367, 2, none⟩ = some (.slice none 0 0) := (yaa_ BK367.out 2).trans rfl; have hcz9_3 : w8.cell? ⟨gb367, 3, none⟩ = some (.int .i64 0) := (yaa_ BK367.out 3).trans rfl; have hcz9_4 : w8.cell? ⟨gb367, 4, none⟩ = some (.slice none 0 0) := (yaa_ BK367.out 4).trans rfl; have hfz9_0 := yab_ BK367.out 0; have hfz9_1 := yab_ BK367.out 1; have hfz9_2 := yab_ BK367.out 2; have hfz9_3 := yab_ BK367.out 3; have hfz9_4 := yab_ BK367.out 4))
        have n0_ : Az_ ((((((w8.setCell ⟨gb367, 0, none⟩ (.bool true)).setCell ⟨gb367, 1, none⟩ (.int .i64 ((rd_T78 l0 x10_1).f1.f0))).setCell ⟨gb367, 2, none⟩ (.slice A366_2 ((rd_T78 l0 x10_1).f1.f1).length c366_2)).setCell ⟨gb367, 3, none⟩ (.int .i64 ((rd_T78 l0 x10_1).f2.f0))).setCell ⟨gb367, 4, none⟩ (.slice A366_4 ((rd_T78 l0 x10_1).f2.f1).length c366_4)).heap[gb367]? = some (.cells #[.bool true, .int .i64 ((rd_T78 l0 x10_1).f1.f0), .slice A366_2 ((rd_T78 l0 x10_1).f1.f1).length c366_2, .int .i64 ((rd_T78 l0 x10_1).f2.f0), .slice A366_4 ((rd_T78 l0 x10_1).f2.f1).length c366_4] 78 (0, 0))) := ⟨by (with_reducible repeat (first | refine kN_ ?_ _ | refine kD_ ?_ | refine kA_ ?_ _)); refine blk_put (cs := #[.bool true, .int .i64 ((rd_T78 l0 x10_1).f1.f0), .slice A366_2 ((rd_T78 l0 x10_1).f1.f1).length c366_2, .int .i64 ((rd_T78 l0 x10_1).f2.f0), .slice none 0 0]) ?_ 4 _ rfl; (with_reducible repeat (first | refine kN_ ?_ _ | refine kD_ ?_ | refine kA_ ?_ _)); refine blk_put (cs := #[.bool true, .int .i64 ((rd_T78 l0 x10_1).f1.f0), .slice A366_2 ((rd_T78 l0 x10_1).f1.f1).length c366_2, .int .i64 0, .slice none 0 0]) ?_ 3 _ rfl; (with_reducible repeat (first | refine kN_ ?_ _ | refine kD_ ?_ | refine kA_ ?_ _)); refine blk_put (cs := #[.bool true, .int .i64 ((rd_T78 l0 x10_1).f1.f0), .slice none 0 0, .int .i64 0, .slice none 0 0]) ?_ 2 _ rfl; (with_reducible repeat (first | refine kN_ ?_ _ | refine kD_ ?_ | refine kA_ ?_ _)); refine blk_put (cs := #[.bool true, .int .i64 0, .slice none 0 0, .int .i64 0, .slice none 0 0]) ?_ 1 _ rfl; (with_reducible repeat (first | refine kN_ ?_ _ | refine kD_ ?_ | refine kA_ ?_ _)); refine blk_put (cs := #[.bool false, .int .i64 0, .slice none 0 0, .int .i64 0, .slice none 0 0]) ?_ 0 _ rfl; (with_reducible repeat (first | refine kN_ ?_ _ | refine kD_ ?_ | refine kA_ ?_ _)); exact BK367.out⟩
        have n1_ : Az_ (Below w.heap.size w (((((w8.setCell ⟨gb367, 0, none⟩ (.bool true)).setCell ⟨gb367, 1, none⟩ (.int .i64 ((rd_T78 l0 x10_1).f1.f0))).setCell ⟨gb367, 2, none⟩ (.slice A366_2 ((rd_T78 l0 x10_1).f1.f1).length c366_2)).setCell ⟨gb367, 3, none⟩ (.int .i64 ((rd_T78 l0 x10_1).f2.f0))).setCell ⟨gb367, 4, none⟩ (.slice A366_4 ((rd_T78 l0 x10_1).f2.f1).length c366_4))) := ⟨by repeat (first | (with_reducible first | exact HB.out | apply bA_ | apply bN_ | apply bD_ | refine bS_ ?_ GE367.out) | exact HB.out)⟩
        (try clear BK367)
        (try clear HB)
        generalize (((((w8.setCell ⟨gb367, 0, none⟩ (.bool true)).setCell ⟨gb367, 1, none⟩ (.int .i64 ((rd_T78 l0 x10_1).f1.f0))).setCell ⟨gb367, 2, none⟩ (.slice A366_2 ((rd_T78 l0 x10_1).f1.f1).length c366_2)).setCell ⟨gb367, 3, none⟩ (.int .i64 ((rd_T78 l0 x10_1).f2.f0))).setCell ⟨gb367, 4, none⟩ (.slice A366_4 ((rd_T78 l0 x10_1).f2.f1).length c366_4)) = w10 at n0_ n1_ ⊢
        have BK367 := n0_
        have HB := n1_
        clear n0_ n1_
        have n0_ := Az_.mk (kD_ BK367.out)
        have n1_ := Az_.mk (bD_ HB.out)
        clear BK367
        clear HB
        have BK367 := n0_
        have HB := n1_
        clear n0_ n1_
        refine start_ (n := 16) (S := fun w' => w'.cell? ⟨gb367, 0, none⟩ = some (.bool true) ∧ w'.cell? ⟨gb367, 1, none⟩ = some (.int .i64 ((rd_T78 l0 x10_1).f1.f0)) ∧ w'.cell? ⟨gb367, 2, none⟩ = some (.slice A366_2 ((rd_T78 l0 x10_1).f1.f1).length c366_2) ∧ w'.cell? ⟨gb367, 3, none⟩ = some (.int .i64 ((rd_T78 l0 x10_1).f2.f0)) ∧ w'.cell? ⟨gb367, 4, none⟩ = some (.slice A366_4 ((rd_T78 l0 x10_1).f2.f1).length c366_4)) (ds := []) #[false, false, false, false, false, false, false, false, false, false, false, false, false, false, false, false] (by kernel_rfl) rfl rfl ⟨(yaa_ BK367.out 0).trans rfl, (yaa_ BK367.out 1).trans rfl, (yaa_ BK367.out 2).trans rfl, (yaa_ BK367.out 3).trans rfl, (yaa_ BK367.out 4).trans rfl⟩ (fun hHeld => ?_); refine with_tabW order_Looked.tab5 order_Looked.bits5 (fun HT_ HW_ => ?_)
        generalize w10.drew = w11 at BK367 HB hHeld ⊢
        refine pure_ (i := 0) (N := some 15) (v := ?_) (a' := ?_) #[true, false, false, false, false, false, false, false, false, false, false, false, false, false, false, false] rfl rfl (any_of HT_.out (by kernel_rfl)) (fun _ _ _ h => h) (Or.inl ⟨by rfl, ?_⟩) ?_ ?_
        rotate_left
        ·intro w'
         go_simp
         with_reducible rfl
        rotate_left
        ·simp only [Act.put, sA_, sZ_, sS_, i64_w, i32_w]
         rfl
        refine take_ (i := 1) (N := some 16) (v := ?_) (a' := ?_) #[true, true, false, false, false, false, false, false, false, false, false, false, false, false, false, false] rfl rfl (yaf_ HT_.out HW_.out (by kernel_rfl)) (fun _ _ _ h => h) (Or.inl ⟨by rfl, ?_⟩) hHeld ?_ ?_
        rotate_left
        ·rintro w' ⟨s0, s1, s2, s3, s4⟩
         go_simp
         with_reducible rfl
        rotate_left
        ·simp only [Act.put, sA_, sZ_, sS_, i64_w, i32_w]
         rfl
        refine pure_ (i := 2) (N := some 17) (v := ?_) (a' := ?_) #[true, true, true, false, false, false, false, false, false, false, false, false, false, false, false, false] rfl rfl (any_of HT_.out (by kernel_rfl)) (fun _ _ _ h => h) (Or.inl ⟨by rfl, ?_⟩) ?_ ?_
        rotate_left
        ·intro w'
         go_simp
         with_reducible rfl
        rotate_left
        ·simp only [Act.put, sA_, sZ_, sS_, i64_w, i32_w]
         rfl
        refine pure_ (i := 3) (N := some 18) (v := ?_) (a' := ?_) #[true, true, true, true, false, false, false, false, false, false, false, false, false, false, false, false] rfl rfl (any_of HT_.out (by kernel_rfl)) (fun _ _ _ h => h) (Or.inl ⟨by rfl, ?_⟩) ?_ ?_
        rotate_left
        ·intro w'
         go_simp
         with_reducible rfl
        rotate_left
        ·simp only [Act.put, sA_, sZ_, sS_, i64_w, i32_w]
         rfl
        refine pure_ (i := 4) (N := some 19) (v := ?_) (a' := ?_) #[true, true, true, true, true, false, false, false, false, false, false, false, false, false, false, false] rfl rfl (any_of HT_.out (by kernel_rfl)) (fun _ _ _ h => h) (Or.inl ⟨by rfl, ?_⟩) ?_ ?_
        rotate_left
        ·intro w'
         go_simp
         with_reducible rfl
        rotate_left
        ·simp only [Act.put, sA_, sZ_, sS_, i64_w, i32_w]
         rfl
        refine pure_ (i := 5) (N := some 20) (v := ?_) (a' := ?_) #[true, true, true, true, true, true, false, false, false, false, false, false, false, false, false, false] rfl rfl (any_of HT_.out (by kernel_rfl)) (fun _ _ _ h => h) (Or.inl ⟨by rfl, ?_⟩) ?_ ?_
        rotate_left
        ·intro w'
         go_simp
         with_reducible rfl
        rotate_left
        ·simp only [Act.put, sA_, sZ_, sS_, i64_w, i32_w]
         rfl
        refine pure_ (i := 6) (N := some 21) (v := undef) (a' := ?_) #[true, true, true, true, true, true, true, false, false, false, false, false, false, false, false, false] rfl rfl (any_of HT_.out (by kernel_rfl)) (fun _ _ _ h => h) (Or.inr ⟨by rfl, rfl⟩) ?_ ?_
        rotate_left
        ·simp only [Act.put, sA_, sZ_, sS_, i64_w, i32_w]
         rfl
        refine pure_ (i := 7) (N := some 22) (v := undef) (a' := ?_) #[true, true, true, true, true, true, true, true, false, false, false, false, false, false, false, false] rfl rfl (any_of HT_.out (by kernel_rfl)) (fun _ _ _ h => h) (Or.inr ⟨by rfl, rfl⟩) ?_ ?_
        rotate_left
        ·simp only [Act.put, sA_, sZ_, sS_, i64_w, i32_w]
         rfl
        refine pure_ (i := 8) (N := some 23) (v := undef) (a' := ?_) #[true, true, true, true, true, true, true, true, true, false, false, false, false, false, false, false] rfl rfl (any_of HT_.out (by kernel_rfl)) (fun _ _ _ h => h) (Or.inr ⟨by rfl, rfl⟩) ?_ ?_
        rotate_left
        ·simp only [Act.put, sA_, sZ_, sS_, i64_w, i32_w]
         rfl
        refine pure_ (i := 9) (N := some 24) (v := undef) (a' := ?_) #[true, true, true, true, true, true, true, true, true, true, false, false, false, false, false, false] rfl rfl (any_of HT_.out (by kernel_rfl)) (fun _ _ _ h => h) (Or.inr ⟨by rfl, rfl⟩) ?_ ?_
        rotate_left
        ·simp only [Act.put, sA_, sZ_, sS_, i64_w, i32_w]
         rfl
        refine pure_ (i := 10) (N := some 25) (v := undef) (a' := ?_) #[true, true, true, true, true, true, true, true, true, true, true, false, false, false, false, false] rfl rfl (any_of HT_.out (by kernel_rfl)) (fun _ _ _ h => h) (Or.inr ⟨by rfl, rfl⟩) ?_ ?_
        rotate_left
        ·simp only [Act.put, sA_, sZ_, sS_, i64_w, i32_w]
         rfl
        refine pure_ (i := 11) (N := some 26) (v := undef) (a' := ?_) #[true, true, true, true, true, true, true, true, true, true, true, true, false, false, false, false] rfl rfl (any_of HT_.out (by kernel_rfl)) (fun _ _ _ h => h) (Or.inr ⟨by rfl, rfl⟩) ?_ ?_
        rotate_left
        ·simp only [Act.put, sA_, sZ_, sS_, i64_w, i32_w]
         rfl
        refine pure_ (i := 12) (N := some 27) (v := undef) (a' := ?_) #[true, true, true, true, true, true, true, true, true, true, true, true, true, false, false, false] rfl rfl (any_of HT_.out (by kernel_rfl)) (fun _ _ _ h => h) (Or.inr ⟨by rfl, rfl⟩) ?_ ?_
        rotate_left
        ·simp only [Act.put, sA_, sZ_, sS_, i64_w, i32_w]
         rfl
        refine pure_ (i := 13) (N := some 28) (v := undef) (a' := ?_) #[true, true, true, true, true, true, true, true, true, true, true, true, true, true, false, false] rfl rfl (any_of HT_.out (by kernel_rfl)) (fun _ _ _ h => h) (Or.inr ⟨by rfl, rfl⟩) ?_ ?_
        rotate_left
        ·simp only [Act.put, sA_, sZ_, sS_, i64_w, i32_w]
         rfl
        refine pure_ (i := 14) (N := some 29) (v := ?_) (a' := ?_) #[true, true, true, true, true, true, true, true, true, true, true, true, true, true, true, false] rfl rfl (any_of HT_.out (by kernel_rfl)) (fun _ _ _ h => h) (Or.inl ⟨by rfl, ?_⟩) ?_ ?_
        rotate_left
        ·intro w'
         go_simp
         with_reducible rfl
        rotate_left
        ·simp only [Act.put, sA_, sZ_, sS_, i64_w, i32_w]
         rfl
        refine pure_ (i := 15) (N := some 30) (v := ?_) (a' := ?_) #[true, true, true, true, true, true, true, true, true, true, true, true, true, true, true, true] rfl rfl (any_of HT_.out (by kernel_rfl)) (fun _ _ _ h => h) (Or.inl ⟨by rfl, ?_⟩) ?_ ?_
        rotate_left
        ·intro w'
         go_simp
         with_reducible rfl
        rotate_left
        ·simp only [Act.put, sA_, sZ_, sS_, i64_w, i32_w]
         rfl
        refine done_ (done_of HT_.out (by kernel_rfl)) ?_
        try go_wp2
        go_roundg k1
        case measure => have := HK1.out; omega
        case rel => exact ⟨(x10_1), (wrap64 (x10_1 + 1)), (by first | rfl | (simp; done) | (simp [*]; done)), (by first | rfl | (simp; done) | (simp [*]; done)), H', ⟨by have := HK1.out; omega⟩, ⟨by repeat (first | (with_reducible first | exact HB.out | apply bA_ | apply bN_ | apply bD_ | refine bS_ ?_ GE367.out) | exact HB.out)⟩⟩
       ·rw [if_neg c7] at H
        have c7b0 : decide (x3_1 < 0) = false := decide_eq_false c7
        clear c7
        replace H := Option.bind_eq_some_iff.mp H
        obtain ⟨t368, A120, H⟩ := H
        replace H : (if 0 ≤ x3_1 then (if x3_1 < (l0.length : Int) then ((order_weight.f ((rd_T78 l0 x3_1).f0) ((rd_T78 l0 x3_1).f1.f0) ((rd_T78 l0 x3_1).f1.f1) ((rd_T78 l0 x3_1).f2.f0) ((rd_T78 l0 x3_1).f2.f1)).bind fun t370 => (if t368 > t370 then (order_Looked.l0 k1 l0 x10_1 l0 (l0.length : Int) (wrap64 (x10_1 + 1))) else (order_Looked.l0 k1 l0 x3_1 l0 (l0.length : Int) (wrap64 (x10_1 + 1))))) else (none)) else (none)) = some r := H
        have A12 := Az_.mk A120
        clear A120
        by_cases c13 : 0 ≤ x3_1
        ·rw [if_pos c13] at H
         have c13b0 : decide (0 ≤ x3_1) = true := decide_eq_true c13
         clear c13
         by_cases c14 : x3_1 < (l0.length : Int)
         ·rw [if_pos c14] at H
          have c14b0 : decide (x3_1 < (l0.length : Int)) = true := decide_eq_true c14
          clear c14
          replace H := Option.bind_eq_some_iff.mp H
          obtain ⟨t370, A150, H⟩ := H
          replace H : (if t368 > t370 then (order_Looked.l0 k1 l0 x10_1 l0 (l0.length : Int) (wrap64 (x10_1 + 1))) else (order_Looked.l0 k1 l0 x3_1 l0 (l0.length : Int) (wrap64 (x10_1 + 1)))) = some r := H
          have A15 := Az_.mk A150
          clear A150
          by_cases c16 : t368 > t370
          ·rw [if_pos c16] at H
           have c16b0 : decide (t370 < t368) = true := decide_eq_true c16
           clear c16
           have H' := Az_.mk H
           clear H
           have p366 : 0 ≤ (x10_1 : Int) := of_decide_eq_true (by first | (with_reducible assumption) | assumption)
           have q366 : x10_1 < (l0.length : Int) := of_decide_eq_true (by first | (with_reducible assumption) | assumption)
           obtain ⟨ad366, A366_2, c366_2, A366_4, c366_4, e366, hx366_0, hx366_1, hx366_2, hx366_3, hx366_4, hl366_2, hi366_2, hl366_4, hi366_4⟩ := at_T78 HR0.out x10_1 p366 q366
           (try rw [← Nbq5.out] at hx366_0)
           cases e366
           replace hx366_0 := (HB.out.cell (World.block_lt_of_cell? w _ hx366_0)).trans hx366_0
           replace hx366_1 := (HB.out.cell (World.block_lt_of_cell? w _ hx366_1)).trans hx366_1
           replace hx366_2 := (HB.out.cell (World.block_lt_of_cell? w _ hx366_2)).trans hx366_2
           replace hx366_3 := (HB.out.cell (World.block_lt_of_cell? w _ hx366_3)).trans hx366_3
           replace hx366_4 := (HB.out.cell (World.block_lt_of_cell? w _ hx366_4)).trans hx366_4
           have HR366_2 := Az_.mk hi366_2
           have HC366_2 := Az_.mk hl366_2
           clear hi366_2 hl366_2
           have HR366_4 := Az_.mk hi366_4
           have HC366_4 := Az_.mk hl366_4
           clear hi366_4 hl366_4
           replace p366 := eq_true p366
           replace q366 := eq_true q366
           try go_wp2_with (first | ((with_reducible refine yah_ (N := 5) rfl ?_); refine yai_ ?hg (N := 5) ?hd (cs := #[.bool false, .int .i64 0, .slice none 0 0, .int .i64 0, .slice none 0 0]) (t := 78) ?hr ?_; (case hd => rfl); (case hg => rfl); (case hr => first | (go_simp; done) | (go_simp; rfl)); intro gb367 hg w17 hbox hb; have n0_ := Az_.mk (bT_ (by repeat (first | (with_reducible first | exact HB.out | apply bA_ | apply bN_ | apply bD_) | exact HB.out)) hb); have n1_ := Az_.mk (hbox); have n2_ := Az_.mk ((by rw [hg]; exact (bZ_ (by repeat (first | (with_reducible first | exact HB.out | apply bA_ | apply bN_ | apply bD_) | exact HB.out))) : w.heap.size ≤ gb367)); have n3_ := Az_.mk ((by rw [hg]; exact (bZ_ (by repeat (first | (with_reducible first | exact HB.out | apply bA_ | apply bN_ | apply bD_) | exact HB.out))) : w.heap.size ≤ gb367)); clear HB; have HB := n0_; have BK367 := n1_; have GW367 := n2_; have GE367 := n3_; clear n0_ n1_ n2_ n3_; clear hb hbox hg; have hcz18_0 : w17.cell? ⟨gb367, 0, none⟩ = some (.bool false) := (yaa_ BK367.out 0).trans rfl; have hcz18_1 : w17.cell? ⟨gb367, 1, none⟩ = some (.int .i64 0) := (yaa_ BK367.out 1).trans rfl; have hcz18_2 : w17.cell? ⟨gb367, 2, none⟩ = some (.slice none 0 0) := (yaa_ BK367.out 2).trans rfl; have hcz18_3 : w17.cell? ⟨gb367, 3, none⟩ = some (.int .i64 0) := (yaa_ BK367.out 3).trans rfl; have hcz18_4 : w17.cell? ⟨gb367, 4, none⟩ = some (.slice none 0 0) := (yaa_ BK367.out 4).trans rfl; have hfz18_0 := yab_ BK367.out 0; have hfz18_1 := yab_ BK367.out 1; have hfz18_2 := yab_ BK367.out 2; have hfz18_3 := yab_ BK367.out 3; have hfz18_4 := yab_ BK367.out 4))
           have n0_ : Az_ ((((((w17.setCell ⟨gb367, 0, none⟩ (.bool true)).setCell ⟨gb367, 1, none⟩ (.int .i64 ((rd_T78 l0 x10_1).f1.f0))).setCell ⟨gb367, 2, none⟩ (.slice A366_2 ((rd_T78 l0 x10_1).f1.f1).length c366_2)).setCell ⟨gb367, 3, none⟩ (.int .i64 ((rd_T78 l0 x10_1).f2.f0))).setCell ⟨gb367, 4, none⟩ (.slice A366_4 ((rd_T78 l0 x10_1).f2.f1).length c366_4)).heap[gb367]? = some (.cells #[.bool true, .int .i64 ((rd_T78 l0 x10_1).f1.f0), .slice A366_2 ((rd_T78 l0 x10_1).f1.f1).length c366_2, .int .i64 ((rd_T78 l0 x10_1).f2.f0), .slice A366_4 ((rd_T78 l0 x10_1).f2.f1).length c366_4] 78 (0, 0))) := ⟨by (with_reducible repeat (first | refine kN_ ?_ _ | refine kD_ ?_ | refine kA_ ?_ _)); refine blk_put (cs := #[.bool true, .int .i64 ((rd_T78 l0 x10_1).f1.f0), .slice A366_2 ((rd_T78 l0 x10_1).f1.f1).length c366_2, .int .i64 ((rd_T78 l0 x10_1).f2.f0), .slice none 0 0]) ?_ 4 _ rfl; (with_reducible repeat (first | refine kN_ ?_ _ | refine kD_ ?_ | refine kA_ ?_ _)); refine blk_put (cs := #[.bool true, .int .i64 ((rd_T78 l0 x10_1).f1.f0), .slice A366_2 ((rd_T78 l0 x10_1).f1.f1).length c366_2, .int .i64 0, .slice none 0 0]) ?_ 3 _ rfl; (with_reducible repeat (first | refine kN_ ?_ _ | refine kD_ ?_ | refine kA_ ?_ _)); refine blk_put (cs := #[.bool true, .int .i64 ((rd_T78 l0 x10_1).f1.f0), .slice none 0 0, .int .i64 0, .slice none 0 0]) ?_ 2 _ rfl; (with_reducible repeat (first | refine kN_ ?_ _ | refine kD_ ?_ | refine kA_ ?_ _)); refine blk_put (cs := #[.bool true, .int .i64 0, .slice none 0 0, .int .i64 0, .slice none 0 0]) ?_ 1 _ rfl; (with_reducible repeat (first | refine kN_ ?_ _ | refine kD_ ?_ | refine kA_ ?_ _)); refine blk_put (cs := #[.bool false, .int .i64 0, .slice none 0 0, .int .i64 0, .slice none 0 0]) ?_ 0 _ rfl; (with_reducible repeat (first | refine kN_ ?_ _ | refine kD_ ?_ | refine kA_ ?_ _)); exact BK367.out⟩
           have n1_ : Az_ (Below w.heap.size w (((((w17.setCell ⟨gb367, 0, none⟩ (.bool true)).setCell ⟨gb367, 1, none⟩ (.int .i64 ((rd_T78 l0 x10_1).f1.f0))).setCell ⟨gb367, 2, none⟩ (.slice A366_2 ((rd_T78 l0 x10_1).f1.f1).length c366_2)).setCell ⟨gb367, 3, none⟩ (.int .i64 ((rd_T78 l0 x10_1).f2.f0))).setCell ⟨gb367, 4, none⟩ (.slice A366_4 ((rd_T78 l0 x10_1).f2.f1).length c366_4))) := ⟨by repeat (first | (with_reducible first | exact HB.out | apply bA_ | apply bN_ | apply bD_ | refine bS_ ?_ GE367.out) | exact HB.out)⟩
           (try clear BK367)
           (try clear HB)
           generalize (((((w17.setCell ⟨gb367, 0, none⟩ (.bool true)).setCell ⟨gb367, 1, none⟩ (.int .i64 ((rd_T78 l0 x10_1).f1.f0))).setCell ⟨gb367, 2, none⟩ (.slice A366_2 ((rd_T78 l0 x10_1).f1.f1).length c366_2)).setCell ⟨gb367, 3, none⟩ (.int .i64 ((rd_T78 l0 x10_1).f2.f0))).setCell ⟨gb367, 4, none⟩ (.slice A366_4 ((rd_T78 l0 x10_1).f2.f1).length c366_4)) = w19 at n0_ n1_ ⊢
           have BK367 := n0_
           have HB := n1_
           clear n0_ n1_
           have n0_ := Az_.mk (kD_ BK367.out)
           have n1_ := Az_.mk (bD_ HB.out)
           clear BK367
           clear HB
           have BK367 := n0_
           have HB := n1_
           clear n0_ n1_
           have p369 : 0 ≤ (x3_1 : Int) := of_decide_eq_true (by first | (with_reducible assumption) | assumption)
           have q369 : x3_1 < (l0.length : Int) := of_decide_eq_true (by first | (with_reducible assumption) | assumption)
           obtain ⟨ad369, A369_2, c369_2, A369_4, c369_4, e369, hx369_0, hx369_1, hx369_2, hx369_3, hx369_4, hl369_2, hi369_2, hl369_4, hi369_4⟩ := at_T78 HR0.out x3_1 p369 q369
           have hw369_4 := hx369_4
           have hw369_3 := hx369_3
           have hw369_2 := hx369_2
           have hw369_1 := hx369_1
           have hw369_0 := hx369_0
           (try rw [← Nbq5.out] at hx369_0)
           obtain rfl : ad366 = ad369 := (by injection e369)
           replace hx369_0 := (HB.out.cell (World.block_lt_of_cell? w _ hx369_0)).trans hx369_0
           replace hx369_1 := (HB.out.cell (World.block_lt_of_cell? w _ hx369_1)).trans hx369_1
           replace hx369_2 := (HB.out.cell (World.block_lt_of_cell? w _ hx369_2)).trans hx369_2
           replace hx369_3 := (HB.out.cell (World.block_lt_of_cell? w _ hx369_3)).trans hx369_3
           replace hx369_4 := (HB.out.cell (World.block_lt_of_cell? w _ hx369_4)).trans hx369_4
           have HR369_2 := Az_.mk hi369_2
           have HC369_2 := Az_.mk hl369_2
           clear hi369_2 hl369_2
           have HR369_4 := Az_.mk hi369_4
           have HC369_4 := Az_.mk hl369_4
           clear hi369_4 hl369_4
           replace p369 := eq_true p369
           replace q369 := eq_true q369
           refine start_ (n := 16) (S := fun w' => w'.cell? ⟨gb367, 0, none⟩ = some (.bool true) ∧ w'.cell? ⟨gb367, 1, none⟩ = some (.int .i64 ((rd_T78 l0 x10_1).f1.f0)) ∧ w'.cell? ⟨gb367, 2, none⟩ = some (.slice A366_2 ((rd_T78 l0 x10_1).f1.f1).length c366_2) ∧ w'.cell? ⟨gb367, 3, none⟩ = some (.int .i64 ((rd_T78 l0 x10_1).f2.f0)) ∧ w'.cell? ⟨gb367, 4, none⟩ = some (.slice A366_4 ((rd_T78 l0 x10_1).f2.f1).length c366_4) ∧ w'.cell? (ad366.add ((x3_1).toNat * 5)) = some (.bool ((rd_T78 l0 x3_1).f0)) ∧ w'.cell? ⟨(ad366.add ((x3_1).toNat * 5)).block, (ad366.add ((x3_1).toNat * 5)).off + 1, none⟩ = some (.int .i64 ((rd_T78 l0 x3_1).f1.f0)) ∧ w'.cell? ⟨(ad366.add ((x3_1).toNat * 5)).block, (ad366.add ((x3_1).toNat * 5)).off + 2, none⟩ = some (.slice A369_2 ((rd_T78 l0 x3_1).f1.f1).length c369_2) ∧ w'.cell? ⟨(ad366.add ((x3_1).toNat * 5)).block, (ad366.add ((x3_1).toNat * 5)).off + 3, none⟩ = some (.int .i64 ((rd_T78 l0 x3_1).f2.f0)) ∧ w'.cell? ⟨(ad366.add ((x3_1).toNat * 5)).block, (ad366.add ((x3_1).toNat * 5)).off + 4, none⟩ = some (.slice A369_4 ((rd_T78 l0 x3_1).f2.f1).length c369_4)) (ds := []) #[false, false, false, false, false, false, false, false, false, false, false, false, false, false, false, false] (by kernel_rfl) rfl rfl ⟨(yaa_ BK367.out 0).trans rfl, (yaa_ BK367.out 1).trans rfl, (yaa_ BK367.out 2).trans rfl, (yaa_ BK367.out 3).trans rfl, (yaa_ BK367.out 4).trans rfl, ((HB.out.cell (World.block_lt_of_cell? w _ hw369_0)).trans hw369_0), ((HB.out.cell (World.block_lt_of_cell? w _ hw369_1)).trans hw369_1), ((HB.out.cell (World.block_lt_of_cell? w _ hw369_2)).trans hw369_2), ((HB.out.cell (World.block_lt_of_cell? w _ hw369_3)).trans hw369_3), ((HB.out.cell (World.block_lt_of_cell? w _ hw369_4)).trans hw369_4)⟩ (fun hHeld => ?_); refine with_tabW order_Looked.tab5 order_Looked.bits5 (fun HT_ HW_ => ?_)
           generalize w19.drew = w20 at BK367 HB HR369_2 HR369_4 hx369_0 hx369_1 hx369_2 hx369_3 hx369_4 hHeld ⊢
           refine pure_ (i := 0) (N := some 15) (v := ?_) (a' := ?_) #[true, false, false, false, false, false, false, false, false, false, false, false, false, false, false, false] rfl rfl (any_of HT_.out (by kernel_rfl)) (fun _ _ _ h => h) (Or.inl ⟨by rfl, ?_⟩) ?_ ?_
           rotate_left
           ·intro w'
            go_simp
            with_reducible rfl
           rotate_left
           ·simp only [Act.put, sA_, sZ_, sS_, i64_w, i32_w]
            rfl
           refine take_ (i := 1) (N := some 16) (v := ?_) (a' := ?_) #[true, true, false, false, false, false, false, false, false, false, false, false, false, false, false, false] rfl rfl (yaf_ HT_.out HW_.out (by kernel_rfl)) (fun _ _ _ h => h) (Or.inl ⟨by rfl, ?_⟩) hHeld ?_ ?_
           rotate_left
           ·rintro w' ⟨s0, s1, s2, s3, s4, s5, s6, s7, s8, s9⟩
            go_simp
            with_reducible rfl
           rotate_left
           ·simp only [Act.put, sA_, sZ_, sS_, i64_w, i32_w]
            rfl
           refine pure_ (i := 2) (N := some 17) (v := ?_) (a' := ?_) #[true, true, true, false, false, false, false, false, false, false, false, false, false, false, false, false] rfl rfl (any_of HT_.out (by kernel_rfl)) (fun _ _ _ h => h) (Or.inl ⟨by rfl, ?_⟩) ?_ ?_
           rotate_left
           ·intro w'
            go_simp
            with_reducible rfl
           rotate_left
           ·simp only [Act.put, sA_, sZ_, sS_, i64_w, i32_w]
            rfl
           refine pure_ (i := 3) (N := some 18) (v := ?_) (a' := ?_) #[true, true, true, true, false, false, false, false, false, false, false, false, false, false, false, false] rfl rfl (any_of HT_.out (by kernel_rfl)) (fun _ _ _ h => h) (Or.inl ⟨by rfl, ?_⟩) ?_ ?_
           rotate_left
           ·intro w'
            go_simp
            with_reducible rfl
           rotate_left
           ·simp only [Act.put, sA_, sZ_, sS_, i64_w, i32_w]
            rfl
           refine pure_ (i := 4) (N := some 19) (v := ?_) (a' := ?_) #[true, true, true, true, true, false, false, false, false, false, false, false, false, false, false, false] rfl rfl (any_of HT_.out (by kernel_rfl)) (fun _ _ _ h => h) (Or.inl ⟨by rfl, ?_⟩) ?_ ?_
           rotate_left
           ·intro w'
            go_simp
            with_reducible rfl
           rotate_left
           ·simp only [Act.put, sA_, sZ_, sS_, i64_w, i32_w]
            rfl
           refine pure_ (i := 5) (N := some 20) (v := ?_) (a' := ?_) #[true, true, true, true, true, true, false, false, false, false, false, false, false, false, false, false] rfl rfl (any_of HT_.out (by kernel_rfl)) (fun _ _ _ h => h) (Or.inl ⟨by rfl, ?_⟩) ?_ ?_
           rotate_left
           ·intro w'
            go_simp
            with_reducible rfl
           rotate_left
           ·simp only [Act.put, sA_, sZ_, sS_, i64_w, i32_w]
            rfl
           refine pure_ (i := 8) (N := some 23) (v := ?_) (a' := ?_) #[true, true, true, true, true, true, false, false, true, false, false, false, false, false, false, false] rfl rfl (any_of HT_.out (by kernel_rfl)) (fun _ _ _ h => h) (Or.inl ⟨by rfl, ?_⟩) ?_ ?_
           rotate_left
           ·intro w'
            go_simp
            with_reducible rfl
           rotate_left
           ·simp only [Act.put, sA_, sZ_, sS_, i64_w, i32_w]
            rfl
           refine pure_ (i := 9) (N := some 24) (v := ?_) (a' := ?_) #[true, true, true, true, true, true, false, false, true, true, false, false, false, false, false, false] rfl rfl (any_of HT_.out (by kernel_rfl)) (fun _ _ _ h => h) (Or.inl ⟨by rfl, ?_⟩) ?_ ?_
           rotate_left
           ·intro w'
            go_simp
            with_reducible rfl
           rotate_left
           ·simp only [Act.put, sA_, sZ_, sS_, i64_w, i32_w]
            rfl
           refine pure_ (i := 10) (N := some 25) (v := ?_) (a' := ?_) #[true, true, true, true, true, true, false, false, true, true, true, false, false, false, false, false] rfl rfl (any_of HT_.out (by kernel_rfl)) (fun _ _ _ h => h) (Or.inl ⟨by rfl, ?_⟩) ?_ ?_
           rotate_left
           ·intro w'
            go_simp
            with_reducible rfl
           rotate_left
           ·simp only [Act.put, sA_, sZ_, sS_, i64_w, i32_w]
            rfl
           refine take_ (i := 6) (N := some 21) (v := ?_) (a' := ?_) #[true, true, true, true, true, true, true, false, true, true, true, false, false, false, false, false] rfl rfl (yaf_ HT_.out HW_.out (by kernel_rfl)) (fun _ _ _ h => h) (Or.inl ⟨by rfl, ?_⟩) hHeld ?_ ?_
           rotate_left
           ·rintro w' ⟨s0, s1, s2, s3, s4, s5, s6, s7, s8, s9⟩
            go_simp
            with_reducible rfl
           rotate_left
           ·simp only [Act.put, sA_, sZ_, sS_, i64_w, i32_w]
            rfl
           refine take_ (i := 11) (N := some 26) (v := ?_) (a' := ?_) #[true, true, true, true, true, true, true, false, true, true, true, true, false, false, false, false] rfl rfl (yaf_ HT_.out HW_.out (by kernel_rfl)) (fun _ _ _ h => h) (Or.inl ⟨by rfl, ?_⟩) hHeld ?_ ?_
           rotate_left
           ·rintro w' ⟨s0, s1, s2, s3, s4, s5, s6, s7, s8, s9⟩
            go_simp
            with_reducible rfl
           rotate_left
           ·simp only [Act.put, sA_, sZ_, sS_, i64_w, i32_w]
            rfl
           refine one_ (i := 7) (N := some 22) #[true, true, true, true, true, true, true, true, true, true, true, true, false, false, false, false] rfl rfl (one_of HT_.out (by kernel_rfl)) (by decide) (fun K hK => ?_)
           refine goes_ Try.func86 (by kernel_rfl) rfl #[.agg #[.bool true, .int .i64 ((rd_T78 l0 x10_1).f1.f0), .slice A366_2 ((rd_T78 l0 x10_1).f1.f1).length c366_2, .int .i64 ((rd_T78 l0 x10_1).f2.f0), .slice A366_4 ((rd_T78 l0 x10_1).f2.f1).length c366_4]] (by rfl) rfl rfl (by (try simp only [List.map_toArray, List.map_cons, List.map_nil]); first | done | rfl | (simp only [List.length_drop, List.length_take]; rfl)) ?_
           with_reducible refine (order_weight.calls true ((rd_T78 l0 x10_1).f1.f0) _ _ ((rd_T78 l0 x10_1).f1.f1) ((rd_T78 l0 x10_1).f2.f0) _ _ ((rd_T78 l0 x10_1).f2.f1) t368 _ ?side1 ?side2 ?side3 ?side4 A12.out).mono ?_
           (case side1 => repeat (first | exact (Kd.C_below HR366_2.out HB.out) | (with_reducible refine Kd.C_alloc ?_ _) | (with_reducible refine Kd.C_drewN ?_ _) | (with_reducible refine Kd.C_drew ?_)))
           (case side2 => exact HC366_2.out)
           (case side3 => repeat (first | exact (Kd.C_below HR366_4.out HB.out) | (with_reducible refine Kd.C_alloc ?_ _) | (with_reducible refine Kd.C_drewN ?_ _) | (with_reducible refine Kd.C_drew ?_)))
           (case side4 => exact HC366_4.out)
           rintro e w21 ⟨rfl, hb⟩
           refine ⟨_, rfl, ?_⟩
           have n0_ := Az_.mk (kB_ (g := gb367) (o := .cells #[.bool true, .int .i64 ((rd_T78 l0 x10_1).f1.f0), .slice A366_2 ((rd_T78 l0 x10_1).f1.f1).length c366_2, .int .i64 ((rd_T78 l0 x10_1).f2.f0), .slice A366_4 ((rd_T78 l0 x10_1).f2.f1).length c366_4] 78 (0, 0)) (by (with_reducible repeat (first | refine kN_ ?_ _ | refine kD_ ?_ | refine kA_ ?_ _)); exact BK367.out) hb)
           have n1_ := Az_.mk (bT_ (by repeat (first | (with_reducible first | exact HB.out | apply bA_ | apply bN_ | apply bD_ | refine bS_ ?_ GE367.out) | exact HB.out)) hb)
           clear BK367
           clear HB
           have BK367 := n0_
           have HB := n1_
           clear n0_ n1_
           (try clear hb)
           (try clear hb2)
           (try clear hk)
           (try clear hi)
           refine hK.out _ _ ⟨(yaa_ BK367.out 0).trans rfl, (yaa_ BK367.out 1).trans rfl, (yaa_ BK367.out 2).trans rfl, (yaa_ BK367.out 3).trans rfl, (yaa_ BK367.out 4).trans rfl, ((HB.out.cell (World.block_lt_of_cell? w _ hw369_0)).trans hw369_0), ((HB.out.cell (World.block_lt_of_cell? w _ hw369_1)).trans hw369_1), ((HB.out.cell (World.block_lt_of_cell? w _ hw369_2)).trans hw369_2), ((HB.out.cell (World.block_lt_of_cell? w _ hw369_3)).trans hw369_3), ((HB.out.cell (World.block_lt_of_cell? w _ hw369_4)).trans hw369_4)⟩ (fun hHeld => ?_)
           clear hK K
           refine norm_ (a' := ?_) ?_ ?_
           rotate_left
           ·show Act.put _ (some 22) _ = _
            simp only [Act.put, sA_, sZ_, sS_, i64_w, i32_w]
            rfl
           refine one_ (i := 12) (N := some 27) #[true, true, true, true, true, true, true, true, true, true, true, true, true, false, false, false] rfl rfl (one_of HT_.out (by kernel_rfl)) (by decide) (fun K hK => ?_)
           refine goes_ Try.func86 (by kernel_rfl) rfl #[.agg #[.bool ((rd_T78 l0 x3_1).f0), .int .i64 ((rd_T78 l0 x3_1).f1.f0), .slice A369_2 ((rd_T78 l0 x3_1).f1.f1).length c369_2, .int .i64 ((rd_T78 l0 x3_1).f2.f0), .slice A369_4 ((rd_T78 l0 x3_1).f2.f1).length c369_4]] (by rfl) rfl rfl (by (try simp only [List.map_toArray, List.map_cons, List.map_nil]); first | done | rfl | (simp only [List.length_drop, List.length_take]; rfl)) ?_
           with_reducible refine (order_weight.calls ((rd_T78 l0 x3_1).f0) ((rd_T78 l0 x3_1).f1.f0) _ _ ((rd_T78 l0 x3_1).f1.f1) ((rd_T78 l0 x3_1).f2.f0) _ _ ((rd_T78 l0 x3_1).f2.f1) t370 _ ?side1 ?side2 ?side3 ?side4 A15.out).mono ?_
           (case side1 => repeat (first | exact (Kd.C_below HR369_2.out HB.out) | (with_reducible refine Kd.C_alloc ?_ _) | (with_reducible refine Kd.C_drewN ?_ _) | (with_reducible refine Kd.C_drew ?_)))
           (case side2 => exact HC369_2.out)
           (case side3 => repeat (first | exact (Kd.C_below HR369_4.out HB.out) | (with_reducible refine Kd.C_alloc ?_ _) | (with_reducible refine Kd.C_drewN ?_ _) | (with_reducible refine Kd.C_drew ?_)))
           (case side4 => exact HC369_4.out)
           rintro e w22 ⟨rfl, hb⟩
           refine ⟨_, rfl, ?_⟩
           have n0_ := Az_.mk (kB_ (g := gb367) (o := .cells #[.bool true, .int .i64 ((rd_T78 l0 x10_1).f1.f0), .slice A366_2 ((rd_T78 l0 x10_1).f1.f1).length c366_2, .int .i64 ((rd_T78 l0 x10_1).f2.f0), .slice A366_4 ((rd_T78 l0 x10_1).f2.f1).length c366_4] 78 (0, 0)) (by (with_reducible repeat (first | refine kN_ ?_ _ | refine kD_ ?_ | refine kA_ ?_ _)); exact BK367.out) hb)
           have n1_ := Az_.mk (bT_ (by repeat (first | (with_reducible first | exact HB.out | apply bA_ | apply bN_ | apply bD_ | refine bS_ ?_ GE367.out) | exact HB.out)) hb)
           clear BK367
           clear HB
           have BK367 := n0_
           have HB := n1_
           clear n0_ n1_
           (try clear hb)
           (try clear hb2)
           (try clear hk)
           (try clear hi)
           refine hK.out _ _ ⟨(yaa_ BK367.out 0).trans rfl, (yaa_ BK367.out 1).trans rfl, (yaa_ BK367.out 2).trans rfl, (yaa_ BK367.out 3).trans rfl, (yaa_ BK367.out 4).trans rfl, ((HB.out.cell (World.block_lt_of_cell? w _ hw369_0)).trans hw369_0), ((HB.out.cell (World.block_lt_of_cell? w _ hw369_1)).trans hw369_1), ((HB.out.cell (World.block_lt_of_cell? w _ hw369_2)).trans hw369_2), ((HB.out.cell (World.block_lt_of_cell? w _ hw369_3)).trans hw369_3), ((HB.out.cell (World.block_lt_of_cell? w _ hw369_4)).trans hw369_4)⟩ (fun hHeld => ?_)
           clear hK K
           refine norm_ (a' := ?_) ?_ ?_
           rotate_left
           ·show Act.put _ (some 27) _ = _
            simp only [Act.put, sA_, sZ_, sS_, i64_w, i32_w]
            rfl
           refine pure_ (i := 13) (N := some 28) (v := ?_) (a' := ?_) #[true, true, true, true, true, true, true, true, true, true, true, true, true, true, false, false] rfl rfl (any_of HT_.out (by kernel_rfl)) (fun _ _ _ h => h) (Or.inl ⟨by rfl, ?_⟩) ?_ ?_
           rotate_left
           ·intro w'
            go_simp
            with_reducible rfl
           rotate_left
           ·simp only [Act.put, sA_, sZ_, sS_, i64_w, i32_w]
            rfl
           refine pure_ (i := 14) (N := some 29) (v := ?_) (a' := ?_) #[true, true, true, true, true, true, true, true, true, true, true, true, true, true, true, false] rfl rfl (any_of HT_.out (by kernel_rfl)) (fun _ _ _ h => h) (Or.inl ⟨by rfl, ?_⟩) ?_ ?_
           rotate_left
           ·intro w'
            go_simp
            with_reducible rfl
           rotate_left
           ·simp only [Act.put, sA_, sZ_, sS_, i64_w, i32_w]
            rfl
           refine pure_ (i := 15) (N := some 30) (v := ?_) (a' := ?_) #[true, true, true, true, true, true, true, true, true, true, true, true, true, true, true, true] rfl rfl (any_of HT_.out (by kernel_rfl)) (fun _ _ _ h => h) (Or.inl ⟨by rfl, ?_⟩) ?_ ?_
           rotate_left
           ·intro w'
            go_simp
            with_reducible rfl
           rotate_left
           ·simp only [Act.put, sA_, sZ_, sS_, i64_w, i32_w]
            rfl
           refine done_ (done_of HT_.out (by kernel_rfl)) ?_
           try go_wp2
           go_roundg k1
           case measure => have := HK1.out; omega
           case rel => exact ⟨(x10_1), (wrap64 (x10_1 + 1)), (by first | rfl | (simp; done) | (simp [*]; done)), (by first | rfl | (simp; done) | (simp [*]; done)), H', ⟨by have := HK1.out; omega⟩, ⟨by repeat (first | (with_reducible first | exact HB.out | apply bA_ | apply bN_ | apply bD_ | refine bS_ ?_ GE367.out) | exact HB.out)⟩⟩
          ·rw [if_neg c16] at H
           have c16b0 : decide (t370 < t368) = false := decide_eq_false c16
           clear c16
           have H' := Az_.mk H
           clear H
           have p366 : 0 ≤ (x10_1 : Int) := of_decide_eq_true (by first | (with_reducible assumption) | assumption)
           have q366 : x10_1 < (l0.length : Int) := of_decide_eq_true (by first | (with_reducible assumption) | assumption)
           obtain ⟨ad366, A366_2, c366_2, A366_4, c366_4, e366, hx366_0, hx366_1, hx366_2, hx366_3, hx366_4, hl366_2, hi366_2, hl366_4, hi366_4⟩ := at_T78 HR0.out x10_1 p366 q366
           (try rw [← Nbq5.out] at hx366_0)
           cases e366
           replace hx366_0 := (HB.out.cell (World.block_lt_of_cell? w _ hx366_0)).trans hx366_0
           replace hx366_1 := (HB.out.cell (World.block_lt_of_cell? w _ hx366_1)).trans hx366_1
           replace hx366_2 := (HB.out.cell (World.block_lt_of_cell? w _ hx366_2)).trans hx366_2
           replace hx366_3 := (HB.out.cell (World.block_lt_of_cell? w _ hx366_3)).trans hx366_3
           replace hx366_4 := (HB.out.cell (World.block_lt_of_cell? w _ hx366_4)).trans hx366_4
           have HR366_2 := Az_.mk hi366_2
           have HC366_2 := Az_.mk hl366_2
           clear hi366_2 hl366_2
           have HR366_4 := Az_.mk hi366_4
           have HC366_4 := Az_.mk hl366_4
           clear hi366_4 hl366_4
           replace p366 := eq_true p366
           replace q366 := eq_true q366
           try go_wp2_with (first | ((with_reducible refine yah_ (N := 5) rfl ?_); refine yai_ ?hg (N := 5) ?hd (cs := #[.bool false, .int .i64 0, .slice none 0 0, .int .i64 0, .slice none 0 0]) (t := 78) ?hr ?_; (case hd => rfl); (case hg => rfl); (case hr => first | (go_simp; done) | (go_simp; rfl)); intro gb367 hg w23 hbox hb; have n0_ := Az_.mk (bT_ (by repeat (first | (with_reducible first | exact HB.out | apply bA_ | apply bN_ | apply bD_) | exact HB.out)) hb); have n1_ := Az_.mk (hbox); have n2_ := Az_.mk ((by rw [hg]; exact (bZ_ (by repeat (first | (with_reducible first | exact HB.out | apply bA_ | apply bN_ | apply bD_) | exact HB.out))) : w.heap.size ≤ gb367)); have n3_ := Az_.mk ((by rw [hg]; exact (bZ_ (by repeat (first | (with_reducible first | exact HB.out | apply bA_ | apply bN_ | apply bD_) | exact HB.out))) : w.heap.size ≤ gb367)); clear HB; have HB := n0_; have BK367 := n1_; have GW367 := n2_; have GE367 := n3_; clear n0_ n1_ n2_ n3_; clear hb hbox hg; have hcz24_0 : w23.cell? ⟨gb367, 0, none⟩ = some (.bool false) := (yaa_ BK367.out 0).trans rfl; have hcz24_1 : w23.cell? ⟨gb367, 1, none⟩ = some (.int .i64 0) := (yaa_ BK367.out 1).trans rfl; have hcz24_2 : w23.cell? ⟨gb367, 2, none⟩ = some (.slice none 0 0) := (yaa_ BK367.out 2).trans rfl; have hcz24_3 : w23.cell? ⟨gb367, 3, none⟩ = some (.int .i64 0) := (yaa_ BK367.out 3).trans rfl; have hcz24_4 : w23.cell? ⟨gb367, 4, none⟩ = some (.slice none 0 0) := (yaa_ BK367.out 4).trans rfl; have hfz24_0 := yab_ BK367.out 0; have hfz24_1 := yab_ BK367.out 1; have hfz24_2 := yab_ BK367.out 2; have hfz24_3 := yab_ BK367.out 3; have hfz24_4 := yab_ BK367.out 4))
           have n0_ : Az_ ((((((w23.setCell ⟨gb367, 0, none⟩ (.bool true)).setCell ⟨gb367, 1, none⟩ (.int .i64 ((rd_T78 l0 x10_1).f1.f0))).setCell ⟨gb367, 2, none⟩ (.slice A366_2 ((rd_T78 l0 x10_1).f1.f1).length c366_2)).setCell ⟨gb367, 3, none⟩ (.int .i64 ((rd_T78 l0 x10_1).f2.f0))).setCell ⟨gb367, 4, none⟩ (.slice A366_4 ((rd_T78 l0 x10_1).f2.f1).length c366_4)).heap[gb367]? = some (.cells #[.bool true, .int .i64 ((rd_T78 l0 x10_1).f1.f0), .slice A366_2 ((rd_T78 l0 x10_1).f1.f1).length c366_2, .int .i64 ((rd_T78 l0 x10_1).f2.f0), .slice A366_4 ((rd_T78 l0 x10_1).f2.f1).length c366_4] 78 (0, 0))) := ⟨by (with_reducible repeat (first | refine kN_ ?_ _ | refine kD_ ?_ | refine kA_ ?_ _)); refine blk_put (cs := #[.bool true, .int .i64 ((rd_T78 l0 x10_1).f1.f0), .slice A366_2 ((rd_T78 l0 x10_1).f1.f1).length c366_2, .int .i64 ((rd_T78 l0 x10_1).f2.f0), .slice none 0 0]) ?_ 4 _ rfl; (with_reducible repeat (first | refine kN_ ?_ _ | refine kD_ ?_ | refine kA_ ?_ _)); refine blk_put (cs := #[.bool true, .int .i64 ((rd_T78 l0 x10_1).f1.f0), .slice A366_2 ((rd_T78 l0 x10_1).f1.f1).length c366_2, .int .i64 0, .slice none 0 0]) ?_ 3 _ rfl; (with_reducible repeat (first | refine kN_ ?_ _ | refine kD_ ?_ | refine kA_ ?_ _)); refine blk_put (cs := #[.bool true, .int .i64 ((rd_T78 l0 x10_1).f1.f0), .slice none 0 0, .int .i64 0, .slice none 0 0]) ?_ 2 _ rfl; (with_reducible repeat (first | refine kN_ ?_ _ | refine kD_ ?_ | refine kA_ ?_ _)); refine blk_put (cs := #[.bool true, .int .i64 0, .slice none 0 0, .int .i64 0, .slice none 0 0]) ?_ 1 _ rfl; (with_reducible repeat (first | refine kN_ ?_ _ | refine kD_ ?_ | refine kA_ ?_ _)); refine blk_put (cs := #[.bool false, .int .i64 0, .slice none 0 0, .int .i64 0, .slice none 0 0]) ?_ 0 _ rfl; (with_reducible repeat (first | refine kN_ ?_ _ | refine kD_ ?_ | refine kA_ ?_ _)); exact BK367.out⟩
           have n1_ : Az_ (Below w.heap.size w (((((w23.setCell ⟨gb367, 0, none⟩ (.bool true)).setCell ⟨gb367, 1, none⟩ (.int .i64 ((rd_T78 l0 x10_1).f1.f0))).setCell ⟨gb367, 2, none⟩ (.slice A366_2 ((rd_T78 l0 x10_1).f1.f1).length c366_2)).setCell ⟨gb367, 3, none⟩ (.int .i64 ((rd_T78 l0 x10_1).f2.f0))).setCell ⟨gb367, 4, none⟩ (.slice A366_4 ((rd_T78 l0 x10_1).f2.f1).length c366_4))) := ⟨by repeat (first | (with_reducible first | exact HB.out | apply bA_ | apply bN_ | apply bD_ | refine bS_ ?_ GE367.out) | exact HB.out)⟩
           (try clear BK367)
           (try clear HB)
           generalize (((((w23.setCell ⟨gb367, 0, none⟩ (.bool true)).setCell ⟨gb367, 1, none⟩ (.int .i64 ((rd_T78 l0 x10_1).f1.f0))).setCell ⟨gb367, 2, none⟩ (.slice A366_2 ((rd_T78 l0 x10_1).f1.f1).length c366_2)).setCell ⟨gb367, 3, none⟩ (.int .i64 ((rd_T78 l0 x10_1).f2.f0))).setCell ⟨gb367, 4, none⟩ (.slice A366_4 ((rd_T78 l0 x10_1).f2.f1).length c366_4)) = w25 at n0_ n1_ ⊢
           have BK367 := n0_
           have HB := n1_
           clear n0_ n1_
           have n0_ := Az_.mk (kD_ BK367.out)
           have n1_ := Az_.mk (bD_ HB.out)
           clear BK367
           clear HB
           have BK367 := n0_
           have HB := n1_
           clear n0_ n1_
           have p369 : 0 ≤ (x3_1 : Int) := of_decide_eq_true (by first | (with_reducible assumption) | assumption)
           have q369 : x3_1 < (l0.length : Int) := of_decide_eq_true (by first | (with_reducible assumption) | assumption)
           obtain ⟨ad369, A369_2, c369_2, A369_4, c369_4, e369, hx369_0, hx369_1, hx369_2, hx369_3, hx369_4, hl369_2, hi369_2, hl369_4, hi369_4⟩ := at_T78 HR0.out x3_1 p369 q369
           have hw369_4 := hx369_4
           have hw369_3 := hx369_3
           have hw369_2 := hx369_2
           have hw369_1 := hx369_1
           have hw369_0 := hx369_0
           (try rw [← Nbq5.out] at hx369_0)
           obtain rfl : ad366 = ad369 := (by injection e369)
           replace hx369_0 := (HB.out.cell (World.block_lt_of_cell? w _ hx369_0)).trans hx369_0
           replace hx369_1 := (HB.out.cell (World.block_lt_of_cell? w _ hx369_1)).trans hx369_1
           replace hx369_2 := (HB.out.cell (World.block_lt_of_cell? w _ hx369_2)).trans hx369_2
           replace hx369_3 := (HB.out.cell (World.block_lt_of_cell? w _ hx369_3)).trans hx369_3
           replace hx369_4 := (HB.out.cell (World.block_lt_of_cell? w _ hx369_4)).trans hx369_4
           have HR369_2 := Az_.mk hi369_2
           have HC369_2 := Az_.mk hl369_2
           clear hi369_2 hl369_2
           have HR369_4 := Az_.mk hi369_4
           have HC369_4 := Az_.mk hl369_4
           clear hi369_4 hl369_4
           replace p369 := eq_true p369
           replace q369 := eq_true q369
           refine start_ (n := 16) (S := fun w' => w'.cell? ⟨gb367, 0, none⟩ = some (.bool true) ∧ w'.cell? ⟨gb367, 1, none⟩ = some (.int .i64 ((rd_T78 l0 x10_1).f1.f0)) ∧ w'.cell? ⟨gb367, 2, none⟩ = some (.slice A366_2 ((rd_T78 l0 x10_1).f1.f1).length c366_2) ∧ w'.cell? ⟨gb367, 3, none⟩ = some (.int .i64 ((rd_T78 l0 x10_1).f2.f0)) ∧ w'.cell? ⟨gb367, 4, none⟩ = some (.slice A366_4 ((rd_T78 l0 x10_1).f2.f1).length c366_4) ∧ w'.cell? (ad366.add ((x3_1).toNat * 5)) = some (.bool ((rd_T78 l0 x3_1).f0)) ∧ w'.cell? ⟨(ad366.add ((x3_1).toNat * 5)).block, (ad366.add ((x3_1).toNat * 5)).off + 1, none⟩ = some (.int .i64 ((rd_T78 l0 x3_1).f1.f0)) ∧ w'.cell? ⟨(ad366.add ((x3_1).toNat * 5)).block, (ad366.add ((x3_1).toNat * 5)).off + 2, none⟩ = some (.slice A369_2 ((rd_T78 l0 x3_1).f1.f1).length c369_2) ∧ w'.cell? ⟨(ad366.add ((x3_1).toNat * 5)).block, (ad366.add ((x3_1).toNat * 5)).off + 3, none⟩ = some (.int .i64 ((rd_T78 l0 x3_1).f2.f0)) ∧ w'.cell? ⟨(ad366.add ((x3_1).toNat * 5)).block, (ad366.add ((x3_1).toNat * 5)).off + 4, none⟩ = some (.slice A369_4 ((rd_T78 l0 x3_1).f2.f1).length c369_4)) (ds := []) #[false, false, false, false, false, false, false, false, false, false, false, false, false, false, false, false] (by kernel_rfl) rfl rfl ⟨(yaa_ BK367.out 0).trans rfl, (yaa_ BK367.out 1).trans rfl, (yaa_ BK367.out 2).trans rfl, (yaa_ BK367.out 3).trans rfl, (yaa_ BK367.out 4).trans rfl, ((HB.out.cell (World.block_lt_of_cell? w _ hw369_0)).trans hw369_0), ((HB.out.cell (World.block_lt_of_cell? w _ hw369_1)).trans hw369_1), ((HB.out.cell (World.block_lt_of_cell? w _ hw369_2)).trans hw369_2), ((HB.out.cell (World.block_lt_of_cell? w _ hw369_3)).trans hw369_3), ((HB.out.cell (World.block_lt_of_cell? w _ hw369_4)).trans hw369_4)⟩ (fun hHeld => ?_); refine with_tabW order_Looked.tab5 order_Looked.bits5 (fun HT_ HW_ => ?_)
           generalize w25.drew = w26 at BK367 HB HR369_2 HR369_4 hx369_0 hx369_1 hx369_2 hx369_3 hx369_4 hHeld ⊢
           refine pure_ (i := 0) (N := some 15) (v := ?_) (a' := ?_) #[true, false, false, false, false, false, false, false, false, false, false, false, false, false, false, false] rfl rfl (any_of HT_.out (by kernel_rfl)) (fun _ _ _ h => h) (Or.inl ⟨by rfl, ?_⟩) ?_ ?_
           rotate_left
           ·intro w'
            go_simp
            with_reducible rfl
           rotate_left
           ·simp only [Act.put, sA_, sZ_, sS_, i64_w, i32_w]
            rfl
           refine take_ (i := 1) (N := some 16) (v := ?_) (a' := ?_) #[true, true, false, false, false, false, false, false, false, false, false, false, false, false, false, false] rfl rfl (yaf_ HT_.out HW_.out (by kernel_rfl)) (fun _ _ _ h => h) (Or.inl ⟨by rfl, ?_⟩) hHeld ?_ ?_
           rotate_left
           ·rintro w' ⟨s0, s1, s2, s3, s4, s5, s6, s7, s8, s9⟩
            go_simp
            with_reducible rfl
           rotate_left
           ·simp only [Act.put, sA_, sZ_, sS_, i64_w, i32_w]
            rfl
           refine pure_ (i := 2) (N := some 17) (v := ?_) (a' := ?_) #[true, true, true, false, false, false, false, false, false, false, false, false, false, false, false, false] rfl rfl (any_of HT_.out (by kernel_rfl)) (fun _ _ _ h => h) (Or.inl ⟨by rfl, ?_⟩) ?_ ?_
           rotate_left
           ·intro w'
            go_simp
            with_reducible rfl
           rotate_left
           ·simp only [Act.put, sA_, sZ_, sS_, i64_w, i32_w]
            rfl
           refine pure_ (i := 3) (N := some 18) (v := ?_) (a' := ?_) #[true, true, true, true, false, false, false, false, false, false, false, false, false, false, false, false] rfl rfl (any_of HT_.out (by kernel_rfl)) (fun _ _ _ h => h) (Or.inl ⟨by rfl, ?_⟩) ?_ ?_
           rotate_left
           ·intro w'
            go_simp
            with_reducible rfl
           rotate_left
           ·simp only [Act.put, sA_, sZ_, sS_, i64_w, i32_w]
            rfl
           refine pure_ (i := 4) (N := some 19) (v := ?_) (a' := ?_) #[true, true, true, true, true, false, false, false, false, false, false, false, false, false, false, false] rfl rfl (any_of HT_.out (by kernel_rfl)) (fun _ _ _ h => h) (Or.inl ⟨by rfl, ?_⟩) ?_ ?_
           rotate_left
           ·intro w'
            go_simp
            with_reducible rfl
           rotate_left
           ·simp only [Act.put, sA_, sZ_, sS_, i64_w, i32_w]
            rfl
           refine pure_ (i := 5) (N := some 20) (v := ?_) (a' := ?_) #[true, true, true, true, true, true, false, false, false, false, false, false, false, false, false, false] rfl rfl (any_of HT_.out (by kernel_rfl)) (fun _ _ _ h => h) (Or.inl ⟨by rfl, ?_⟩) ?_ ?_
           rotate_left
           ·intro w'
            go_simp
            with_reducible rfl
           rotate_left
           ·simp only [Act.put, sA_, sZ_, sS_, i64_w, i32_w]
            rfl
           refine pure_ (i := 8) (N := some 23) (v := ?_) (a' := ?_) #[true, true, true, true, true, true, false, false, true, false, false, false, false, false, false, false] rfl rfl (any_of HT_.out (by kernel_rfl)) (fun _ _ _ h => h) (Or.inl ⟨by rfl, ?_⟩) ?_ ?_
           rotate_left
           ·intro w'
            go_simp
            with_reducible rfl
           rotate_left
           ·simp only [Act.put, sA_, sZ_, sS_, i64_w, i32_w]
            rfl
           refine pure_ (i := 9) (N := some 24) (v := ?_) (a' := ?_) #[true, true, true, true, true, true, false, false, true, true, false, false, false, false, false, false] rfl rfl (any_of HT_.out (by kernel_rfl)) (fun _ _ _ h => h) (Or.inl ⟨by rfl, ?_⟩) ?_ ?_
           rotate_left
           ·intro w'
            go_simp
            with_reducible rfl
           rotate_left
           ·simp only [Act.put, sA_, sZ_, sS_, i64_w, i32_w]
            rfl
           refine pure_ (i := 10) (N := some 25) (v := ?_) (a' := ?_) #[true, true, true, true, true, true, false, false, true, true, true, false, false, false, false, false] rfl rfl (any_of HT_.out (by kernel_rfl)) (fun _ _ _ h => h) (Or.inl ⟨by rfl, ?_⟩) ?_ ?_
           rotate_left
           ·intro w'
            go_simp
            with_reducible rfl
           rotate_left
           ·simp only [Act.put, sA_, sZ_, sS_, i64_w, i32_w]
            rfl
           refine take_ (i := 6) (N := some 21) (v := ?_) (a' := ?_) #[true, true, true, true, true, true, true, false, true, true, true, false, false, false, false, false] rfl rfl (yaf_ HT_.out HW_.out (by kernel_rfl)) (fun _ _ _ h => h) (Or.inl ⟨by rfl, ?_⟩) hHeld ?_ ?_
           rotate_left
           ·rintro w' ⟨s0, s1, s2, s3, s4, s5, s6, s7, s8, s9⟩
            go_simp
            with_reducible rfl
           rotate_left
           ·simp only [Act.put, sA_, sZ_, sS_, i64_w, i32_w]
            rfl
           refine take_ (i := 11) (N := some 26) (v := ?_) (a' := ?_) #[true, true, true, true, true, true, true, false, true, true, true, true, false, false, false, false] rfl rfl (yaf_ HT_.out HW_.out (by kernel_rfl)) (fun _ _ _ h => h) (Or.inl ⟨by rfl, ?_⟩) hHeld ?_ ?_
           rotate_left
           ·rintro w' ⟨s0, s1, s2, s3, s4, s5, s6, s7, s8, s9⟩
            go_simp
            with_reducible rfl
           rotate_left
           ·simp only [Act.put, sA_, sZ_, sS_, i64_w, i32_w]
            rfl
           refine one_ (i := 7) (N := some 22) #[true, true, true, true, true, true, true, true, true, true, true, true, false, false, false, false] rfl rfl (one_of HT_.out (by kernel_rfl)) (by decide) (fun K hK => ?_)
           refine goes_ Try.func86 (by kernel_rfl) rfl #[.agg #[.bool true, .int .i64 ((rd_T78 l0 x10_1).f1.f0), .slice A366_2 ((rd_T78 l0 x10_1).f1.f1).length c366_2, .int .i64 ((rd_T78 l0 x10_1).f2.f0), .slice A366_4 ((rd_T78 l0 x10_1).f2.f1).length c366_4]] (by rfl) rfl rfl (by (try simp only [List.map_toArray, List.map_cons, List.map_nil]); first | done | rfl | (simp only [List.length_drop, List.length_take]; rfl)) ?_
           with_reducible refine (order_weight.calls true ((rd_T78 l0 x10_1).f1.f0) _ _ ((rd_T78 l0 x10_1).f1.f1) ((rd_T78 l0 x10_1).f2.f0) _ _ ((rd_T78 l0 x10_1).f2.f1) t368 _ ?side1 ?side2 ?side3 ?side4 A12.out).mono ?_
           (case side1 => repeat (first | exact (Kd.C_below HR366_2.out HB.out) | (with_reducible refine Kd.C_alloc ?_ _) | (with_reducible refine Kd.C_drewN ?_ _) | (with_reducible refine Kd.C_drew ?_)))
           (case side2 => exact HC366_2.out)
           (case side3 => repeat (first | exact (Kd.C_below HR366_4.out HB.out) | (with_reducible refine Kd.C_alloc ?_ _) | (with_reducible refine Kd.C_drewN ?_ _) | (with_reducible refine Kd.C_drew ?_)))
           (case side4 => exact HC366_4.out)
           rintro e w27 ⟨rfl, hb⟩
           refine ⟨_, rfl, ?_⟩
           have n0_ := Az_.mk (kB_ (g := gb367) (o := .cells #[.bool true, .int .i64 ((rd_T78 l0 x10_1).f1.f0), .slice A366_2 ((rd_T78 l0 x10_1).f1.f1).length c366_2, .int .i64 ((rd_T78 l0 x10_1).f2.f0), .slice A366_4 ((rd_T78 l0 x10_1).f2.f1).length c366_4] 78 (0, 0)) (by (with_reducible repeat (first | refine kN_ ?_ _ | refine kD_ ?_ | refine kA_ ?_ _)); exact BK367.out) hb)
           have n1_ := Az_.mk (bT_ (by repeat (first | (with_reducible first | exact HB.out | apply bA_ | apply bN_ | apply bD_ | refine bS_ ?_ GE367.out) | exact HB.out)) hb)
           clear BK367
           clear HB
           have BK367 := n0_
           have HB := n1_
           clear n0_ n1_
           (try clear hb)
           (try clear hb2)
           (try clear hk)
           (try clear hi)
           refine hK.out _ _ ⟨(yaa_ BK367.out 0).trans rfl, (yaa_ BK367.out 1).trans rfl, (yaa_ BK367.out 2).trans rfl, (yaa_ BK367.out 3).trans rfl, (yaa_ BK367.out 4).trans rfl, ((HB.out.cell (World.block_lt_of_cell? w _ hw369_0)).trans hw369_0), ((HB.out.cell (World.block_lt_of_cell? w _ hw369_1)).trans hw369_1), ((HB.out.cell (World.block_lt_of_cell? w _ hw369_2)).trans hw369_2), ((HB.out.cell (World.block_lt_of_cell? w _ hw369_3)).trans hw369_3), ((HB.out.cell (World.block_lt_of_cell? w _ hw369_4)).trans hw369_4)⟩ (fun hHeld => ?_)
           clear hK K
           refine norm_ (a' := ?_) ?_ ?_
           rotate_left
           ·show Act.put _ (some 22) _ = _
            simp only [Act.put, sA_, sZ_, sS_, i64_w, i32_w]
            rfl
           refine one_ (i := 12) (N := some 27) #[true, true, true, true, true, true, true, true, true, true, true, true, true, false, false, false] rfl rfl (one_of HT_.out (by kernel_rfl)) (by decide) (fun K hK => ?_)
           refine goes_ Try.func86 (by kernel_rfl) rfl #[.agg #[.bool ((rd_T78 l0 x3_1).f0), .int .i64 ((rd_T78 l0 x3_1).f1.f0), .slice A369_2 ((rd_T78 l0 x3_1).f1.f1).length c369_2, .int .i64 ((rd_T78 l0 x3_1).f2.f0), .slice A369_4 ((rd_T78 l0 x3_1).f2.f1).length c369_4]] (by rfl) rfl rfl (by (try simp only [List.map_toArray, List.map_cons, List.map_nil]); first | done | rfl | (simp only [List.length_drop, List.length_take]; rfl)) ?_
           with_reducible refine (order_weight.calls ((rd_T78 l0 x3_1).f0) ((rd_T78 l0 x3_1).f1.f0) _ _ ((rd_T78 l0 x3_1).f1.f1) ((rd_T78 l0 x3_1).f2.f0) _ _ ((rd_T78 l0 x3_1).f2.f1) t370 _ ?side1 ?side2 ?side3 ?side4 A15.out).mono ?_
           (case side1 => repeat (first | exact (Kd.C_below HR369_2.out HB.out) | (with_reducible refine Kd.C_alloc ?_ _) | (with_reducible refine Kd.C_drewN ?_ _) | (with_reducible refine Kd.C_drew ?_)))
           (case side2 => exact HC369_2.out)
           (case side3 => repeat (first | exact (Kd.C_below HR369_4.out HB.out) | (with_reducible refine Kd.C_alloc ?_ _) | (with_reducible refine Kd.C_drewN ?_ _) | (with_reducible refine Kd.C_drew ?_)))
           (case side4 => exact HC369_4.out)
           rintro e w28 ⟨rfl, hb⟩
           refine ⟨_, rfl, ?_⟩
           have n0_ := Az_.mk (kB_ (g := gb367) (o := .cells #[.bool true, .int .i64 ((rd_T78 l0 x10_1).f1.f0), .slice A366_2 ((rd_T78 l0 x10_1).f1.f1).length c366_2, .int .i64 ((rd_T78 l0 x10_1).f2.f0), .slice A366_4 ((rd_T78 l0 x10_1).f2.f1).length c366_4] 78 (0, 0)) (by (with_reducible repeat (first | refine kN_ ?_ _ | refine kD_ ?_ | refine kA_ ?_ _)); exact BK367.out) hb)
           have n1_ := Az_.mk (bT_ (by repeat (first | (with_reducible first | exact HB.out | apply bA_ | apply bN_ | apply bD_ | refine bS_ ?_ GE367.out) | exact HB.out)) hb)
           clear BK367
           clear HB
           have BK367 := n0_
           have HB := n1_
           clear n0_ n1_
           (try clear hb)
           (try clear hb2)
           (try clear hk)
           (try clear hi)
           refine hK.out _ _ ⟨(yaa_ BK367.out 0).trans rfl, (yaa_ BK367.out 1).trans rfl, (yaa_ BK367.out 2).trans rfl, (yaa_ BK367.out 3).trans rfl, (yaa_ BK367.out 4).trans rfl, ((HB.out.cell (World.block_lt_of_cell? w _ hw369_0)).trans hw369_0), ((HB.out.cell (World.block_lt_of_cell? w _ hw369_1)).trans hw369_1), ((HB.out.cell (World.block_lt_of_cell? w _ hw369_2)).trans hw369_2), ((HB.out.cell (World.block_lt_of_cell? w _ hw369_3)).trans hw369_3), ((HB.out.cell (World.block_lt_of_cell? w _ hw369_4)).trans hw369_4)⟩ (fun hHeld => ?_)
           clear hK K
           refine norm_ (a' := ?_) ?_ ?_
           rotate_left
           ·show Act.put _ (some 27) _ = _
            simp only [Act.put, sA_, sZ_, sS_, i64_w, i32_w]
            rfl
           refine pure_ (i := 13) (N := some 28) (v := ?_) (a' := ?_) #[true, true, true, true, true, true, true, true, true, true, true, true, true, true, false, false] rfl rfl (any_of HT_.out (by kernel_rfl)) (fun _ _ _ h => h) (Or.inl ⟨by rfl, ?_⟩) ?_ ?_
           rotate_left
           ·intro w'
            go_simp
            with_reducible rfl
           rotate_left
           ·simp only [Act.put, sA_, sZ_, sS_, i64_w, i32_w]
            rfl
           refine pure_ (i := 14) (N := some 29) (v := ?_) (a' := ?_) #[true, true, true, true, true, true, true, true, true, true, true, true, true, true, true, false] rfl rfl (any_of HT_.out (by kernel_rfl)) (fun _ _ _ h => h) (Or.inl ⟨by rfl, ?_⟩) ?_ ?_
           rotate_left
           ·intro w'
            go_simp
            with_reducible rfl
           rotate_left
           ·simp only [Act.put, sA_, sZ_, sS_, i64_w, i32_w]
            rfl
           refine pure_ (i := 15) (N := some 30) (v := ?_) (a' := ?_) #[true, true, true, true, true, true, true, true, true, true, true, true, true, true, true, true] rfl rfl (any_of HT_.out (by kernel_rfl)) (fun _ _ _ h => h) (Or.inl ⟨by rfl, ?_⟩) ?_ ?_
           rotate_left
           ·intro w'
            go_simp
            with_reducible rfl
           rotate_left
           ·simp only [Act.put, sA_, sZ_, sS_, i64_w, i32_w]
            rfl
           refine done_ (done_of HT_.out (by kernel_rfl)) ?_
           try go_wp2
           go_roundg k1
           case measure => have := HK1.out; omega
           case rel => exact ⟨(x3_1), (wrap64 (x10_1 + 1)), (by first | rfl | (simp; done) | (simp [*]; done)), (by first | rfl | (simp; done) | (simp [*]; done)), H', ⟨by have := HK1.out; omega⟩, ⟨by repeat (first | (with_reducible first | exact HB.out | apply bA_ | apply bN_ | apply bD_ | refine bS_ ?_ GE367.out) | exact HB.out)⟩⟩
         ·rw [if_neg c14] at H
          exact absurd H (by simp)
        ·rw [if_neg c13] at H
         exact absurd H (by simp)
      ·replace c6 := Bool.eq_false_iff.mpr c6
       subst c6
       have H1 : (order_Looked.l0 k1 l0 x3_1 l0 (l0.length : Int) (wrap64 (x10_1 + 1))) = some r := by rw [if_neg (show ¬ (false = true) by decide)] at H; exact H
       clear H
       have H := H1
       clear H1
       have H' := Az_.mk H
       clear H
       have p366 : 0 ≤ (x10_1 : Int) := of_decide_eq_true (by first | (with_reducible assumption) | assumption)
       have q366 : x10_1 < (l0.length : Int) := of_decide_eq_true (by first | (with_reducible assumption) | assumption)
       obtain ⟨ad366, A366_2, c366_2, A366_4, c366_4, e366, hx366_0, hx366_1, hx366_2, hx366_3, hx366_4, hl366_2, hi366_2, hl366_4, hi366_4⟩ := at_T78 HR0.out x10_1 p366 q366
       (try rw [← Nbq5.out] at hx366_0)
       cases e366
       replace hx366_0 := (HB.out.cell (World.block_lt_of_cell? w _ hx366_0)).trans hx366_0
       replace hx366_1 := (HB.out.cell (World.block_lt_of_cell? w _ hx366_1)).trans hx366_1
       replace hx366_2 := (HB.out.cell (World.block_lt_of_cell? w _ hx366_2)).trans hx366_2
       replace hx366_3 := (HB.out.cell (World.block_lt_of_cell? w _ hx366_3)).trans hx366_3
       replace hx366_4 := (HB.out.cell (World.block_lt_of_cell? w _ hx366_4)).trans hx366_4
       have HR366_2 := Az_.mk hi366_2
       have HC366_2 := Az_.mk hl366_2
       clear hi366_2 hl366_2
       have HR366_4 := Az_.mk hi366_4
       have HC366_4 := Az_.mk hl366_4
       clear hi366_4 hl366_4
       replace p366 := eq_true p366
       replace q366 := eq_true q366
       try go_wp2_with (first | ((with_reducible refine yah_ (N := 5) rfl ?_); refine yai_ ?hg (N := 5) ?hd (cs := #[.bool false, .int .i64 0, .slice none 0 0, .int .i64 0, .slice none 0 0]) (t := 78) ?hr ?_; (case hd => rfl); (case hg => rfl); (case hr => first | (go_simp; done) | (go_simp; rfl)); intro gb367 hg w29 hbox hb; have n0_ := Az_.mk (bT_ (by repeat (first | (with_reducible first | exact HB.out | apply bA_ | apply bN_ | apply bD_) | exact HB.out)) hb); have n1_ := Az_.mk (hbox); have n2_ := Az_.mk ((by rw [hg]; exact (bZ_ (by repeat (first | (with_reducible first | exact HB.out | apply bA_ | apply bN_ | apply bD_) | exact HB.out))) : w.heap.size ≤ gb367)); have n3_ := Az_.mk ((by rw [hg]; exact (bZ_ (by repeat (first | (with_reducible first | exact HB.out | apply bA_ | apply bN_ | apply bD_) | exact HB.out))) : w.heap.size ≤ gb367)); clear HB; have HB := n0_; have BK367 := n1_; have GW367 := n2_; have GE367 := n3_; clear n0_ n1_ n2_ n3_; clear hb hbox hg; have hcz30_0 : w29.cell? ⟨gb367, 0, none⟩ = some (.bool false) := (yaa_ BK367.out 0).trans rfl; have hcz30_1 : w29.cell? ⟨gb367, 1, none⟩ = some (.int .i64 0) := (yaa_ BK367.out 1).trans rfl; have hcz30_2 : w29.cell? ⟨gb367, 2, none⟩ = some (.slice none 0 0) := (yaa_ BK367.out 2).trans rfl; have hcz30_3 : w29.cell? ⟨gb367, 3, none⟩ = some (.int .i64 0) := (yaa_ BK367.out 3).trans rfl; have hcz30_4 : w29.cell? ⟨gb367, 4, none⟩ = some (.slice none 0 0) := (yaa_ BK367.out 4).trans rfl; have hfz30_0 := yab_ BK367.out 0; have hfz30_1 := yab_ BK367.out 1; have hfz30_2 := yab_ BK367.out 2; have hfz30_3 := yab_ BK367.out 3; have hfz30_4 := yab_ BK367.out 4))
       have n0_ : Az_ ((((((w29.setCell ⟨gb367, 0, none⟩ (.bool false)).setCell ⟨gb367, 1, none⟩ (.int .i64 ((rd_T78 l0 x10_1).f1.f0))).setCell ⟨gb367, 2, none⟩ (.slice A366_2 ((rd_T78 l0 x10_1).f1.f1).length c366_2)).setCell ⟨gb367, 3, none⟩ (.int .i64 ((rd_T78 l0 x10_1).f2.f0))).setCell ⟨gb367, 4, none⟩ (.slice A366_4 ((rd_T78 l0 x10_1).f2.f1).length c366_4)).heap[gb367]? = some (.cells #[.bool false, .int .i64 ((rd_T78 l0 x10_1).f1.f0), .slice A366_2 ((rd_T78 l0 x10_1).f1.f1).length c366_2, .int .i64 ((rd_T78 l0 x10_1).f2.f0), .slice A366_4 ((rd_T78 l0 x10_1).f2.f1).length c366_4] 78 (0, 0))) := ⟨by (with_reducible repeat (first | refine kN_ ?_ _ | refine kD_ ?_ | refine kA_ ?_ _)); refine blk_put (cs := #[.bool false, .int .i64 ((rd_T78 l0 x10_1).f1.f0), .slice A366_2 ((rd_T78 l0 x10_1).f1.f1).length c366_2, .int .i64 ((rd_T78 l0 x10_1).f2.f0), .slice none 0 0]) ?_ 4 _ rfl; (with_reducible repeat (first | refine kN_ ?_ _ | refine kD_ ?_ | refine kA_ ?_ _)); refine blk_put (cs := #[.bool false, .int .i64 ((rd_T78 l0 x10_1).f1.f0), .slice A366_2 ((rd_T78 l0 x10_1).f1.f1).length c366_2, .int .i64 0, .slice none 0 0]) ?_ 3 _ rfl; (with_reducible repeat (first | refine kN_ ?_ _ | refine kD_ ?_ | refine kA_ ?_ _)); refine blk_put (cs := #[.bool false, .int .i64 ((rd_T78 l0 x10_1).f1.f0), .slice none 0 0, .int .i64 0, .slice none 0 0]) ?_ 2 _ rfl; (with_reducible repeat (first | refine kN_ ?_ _ | refine kD_ ?_ | refine kA_ ?_ _)); refine blk_put (cs := #[.bool false, .int .i64 0, .slice none 0 0, .int .i64 0, .slice none 0 0]) ?_ 1 _ rfl; (with_reducible repeat (first | refine kN_ ?_ _ | refine kD_ ?_ | refine kA_ ?_ _)); refine blk_put (cs := #[.bool false, .int .i64 0, .slice none 0 0, .int .i64 0, .slice none 0 0]) ?_ 0 _ rfl; (with_reducible repeat (first | refine kN_ ?_ _ | refine kD_ ?_ | refine kA_ ?_ _)); exact BK367.out⟩
       have n1_ : Az_ (Below w.heap.size w (((((w29.setCell ⟨gb367, 0, none⟩ (.bool false)).setCell ⟨gb367, 1, none⟩ (.int .i64 ((rd_T78 l0 x10_1).f1.f0))).setCell ⟨gb367, 2, none⟩ (.slice A366_2 ((rd_T78 l0 x10_1).f1.f1).length c366_2)).setCell ⟨gb367, 3, none⟩ (.int .i64 ((rd_T78 l0 x10_1).f2.f0))).setCell ⟨gb367, 4, none⟩ (.slice A366_4 ((rd_T78 l0 x10_1).f2.f1).length c366_4))) := ⟨by repeat (first | (with_reducible first | exact HB.out | apply bA_ | apply bN_ | apply bD_ | refine bS_ ?_ GE367.out) | exact HB.out)⟩
       (try clear BK367)
       (try clear HB)
       generalize (((((w29.setCell ⟨gb367, 0, none⟩ (.bool false)).setCell ⟨gb367, 1, none⟩ (.int .i64 ((rd_T78 l0 x10_1).f1.f0))).setCell ⟨gb367, 2, none⟩ (.slice A366_2 ((rd_T78 l0 x10_1).f1.f1).length c366_2)).setCell ⟨gb367, 3, none⟩ (.int .i64 ((rd_T78 l0 x10_1).f2.f0))).setCell ⟨gb367, 4, none⟩ (.slice A366_4 ((rd_T78 l0 x10_1).f2.f1).length c366_4)) = w31 at n0_ n1_ ⊢
       have BK367 := n0_
       have HB := n1_
       clear n0_ n1_
       have n0_ := Az_.mk (kD_ BK367.out)
       have n1_ := Az_.mk (bD_ HB.out)
       clear BK367
       clear HB
       have BK367 := n0_
       have HB := n1_
       clear n0_ n1_
       refine start_ (n := 16) (S := fun w' => w'.cell? ⟨gb367, 0, none⟩ = some (.bool false) ∧ w'.cell? ⟨gb367, 1, none⟩ = some (.int .i64 ((rd_T78 l0 x10_1).f1.f0)) ∧ w'.cell? ⟨gb367, 2, none⟩ = some (.slice A366_2 ((rd_T78 l0 x10_1).f1.f1).length c366_2) ∧ w'.cell? ⟨gb367, 3, none⟩ = some (.int .i64 ((rd_T78 l0 x10_1).f2.f0)) ∧ w'.cell? ⟨gb367, 4, none⟩ = some (.slice A366_4 ((rd_T78 l0 x10_1).f2.f1).length c366_4)) (ds := []) #[false, false, false, false, false, false, false, false, false, false, false, false, false, false, false, false] (by kernel_rfl) rfl rfl ⟨(yaa_ BK367.out 0).trans rfl, (yaa_ BK367.out 1).trans rfl, (yaa_ BK367.out 2).trans rfl, (yaa_ BK367.out 3).trans rfl, (yaa_ BK367.out 4).trans rfl⟩ (fun hHeld => ?_); refine with_tabW order_Looked.tab5 order_Looked.bits5 (fun HT_ HW_ => ?_)
       generalize w31.drew = w32 at BK367 HB hHeld ⊢
       refine pure_ (i := 0) (N := some 15) (v := ?_) (a' := ?_) #[true, false, false, false, false, false, false, false, false, false, false, false, false, false, false, false] rfl rfl (any_of HT_.out (by kernel_rfl)) (fun _ _ _ h => h) (Or.inl ⟨by rfl, ?_⟩) ?_ ?_
       rotate_left
       ·intro w'
        go_simp
        with_reducible rfl
       rotate_left
       ·simp only [Act.put, sA_, sZ_, sS_, i64_w, i32_w]
        rfl
       refine take_ (i := 1) (N := some 16) (v := ?_) (a' := ?_) #[true, true, false, false, false, false, false, false, false, false, false, false, false, false, false, false] rfl rfl (yaf_ HT_.out HW_.out (by kernel_rfl)) (fun _ _ _ h => h) (Or.inl ⟨by rfl, ?_⟩) hHeld ?_ ?_
       rotate_left
       ·rintro w' ⟨s0, s1, s2, s3, s4⟩
        go_simp
        with_reducible rfl
       rotate_left
       ·simp only [Act.put, sA_, sZ_, sS_, i64_w, i32_w]
        rfl
       refine pure_ (i := 2) (N := some 17) (v := ?_) (a' := ?_) #[true, true, true, false, false, false, false, false, false, false, false, false, false, false, false, false] rfl rfl (any_of HT_.out (by kernel_rfl)) (fun _ _ _ h => h) (Or.inl ⟨by rfl, ?_⟩) ?_ ?_
       rotate_left
       ·intro w'
        go_simp
        with_reducible rfl
       rotate_left
       ·simp only [Act.put, sA_, sZ_, sS_, i64_w, i32_w]
        rfl
       refine pure_ (i := 3) (N := some 18) (v := undef) (a' := ?_) #[true, true, true, true, false, false, false, false, false, false, false, false, false, false, false, false] rfl rfl (any_of HT_.out (by kernel_rfl)) (fun _ _ _ h => h) (Or.inr ⟨by rfl, rfl⟩) ?_ ?_
       rotate_left
       ·simp only [Act.put, sA_, sZ_, sS_, i64_w, i32_w]
        rfl
       refine pure_ (i := 4) (N := some 19) (v := undef) (a' := ?_) #[true, true, true, true, true, false, false, false, false, false, false, false, false, false, false, false] rfl rfl (any_of HT_.out (by kernel_rfl)) (fun _ _ _ h => h) (Or.inr ⟨by rfl, rfl⟩) ?_ ?_
       rotate_left
       ·simp only [Act.put, sA_, sZ_, sS_, i64_w, i32_w]
        rfl
       refine pure_ (i := 5) (N := some 20) (v := undef) (a' := ?_) #[true, true, true, true, true, true, false, false, false, false, false, false, false, false, false, false] rfl rfl (any_of HT_.out (by kernel_rfl)) (fun _ _ _ h => h) (Or.inr ⟨by rfl, rfl⟩) ?_ ?_
       rotate_left
       ·simp only [Act.put, sA_, sZ_, sS_, i64_w, i32_w]
        rfl
       refine pure_ (i := 6) (N := some 21) (v := undef) (a' := ?_) #[true, true, true, true, true, true, true, false, false, false, false, false, false, false, false, false] rfl rfl (any_of HT_.out (by kernel_rfl)) (fun _ _ _ h => h) (Or.inr ⟨by rfl, rfl⟩) ?_ ?_
       rotate_left
       ·simp only [Act.put, sA_, sZ_, sS_, i64_w, i32_w]
        rfl
       refine pure_ (i := 7) (N := some 22) (v := undef) (a' := ?_) #[true, true, true, true, true, true, true, true, false, false, false, false, false, false, false, false] rfl rfl (any_of HT_.out (by kernel_rfl)) (fun _ _ _ h => h) (Or.inr ⟨by rfl, rfl⟩) ?_ ?_
       rotate_left
       ·simp only [Act.put, sA_, sZ_, sS_, i64_w, i32_w]
        rfl
       refine pure_ (i := 8) (N := some 23) (v := undef) (a' := ?_) #[true, true, true, true, true, true, true, true, true, false, false, false, false, false, false, false] rfl rfl (any_of HT_.out (by kernel_rfl)) (fun _ _ _ h => h) (Or.inr ⟨by rfl, rfl⟩) ?_ ?_
       rotate_left
       ·simp only [Act.put, sA_, sZ_, sS_, i64_w, i32_w]
        rfl
       refine pure_ (i := 9) (N := some 24) (v := undef) (a' := ?_) #[true, true, true, true, true, true, true, true, true, true, false, false, false, false, false, false] rfl rfl (any_of HT_.out (by kernel_rfl)) (fun _ _ _ h => h) (Or.inr ⟨by rfl, rfl⟩) ?_ ?_
       rotate_left
       ·simp only [Act.put, sA_, sZ_, sS_, i64_w, i32_w]
        rfl
       refine pure_ (i := 10) (N := some 25) (v := undef) (a' := ?_) #[true, true, true, true, true, true, true, true, true, true, true, false, false, false, false, false] rfl rfl (any_of HT_.out (by kernel_rfl)) (fun _ _ _ h => h) (Or.inr ⟨by rfl, rfl⟩) ?_ ?_
       rotate_left
       ·simp only [Act.put, sA_, sZ_, sS_, i64_w, i32_w]
        rfl
       refine pure_ (i := 11) (N := some 26) (v := undef) (a' := ?_) #[true, true, true, true, true, true, true, true, true, true, true, true, false, false, false, false] rfl rfl (any_of HT_.out (by kernel_rfl)) (fun _ _ _ h => h) (Or.inr ⟨by rfl, rfl⟩) ?_ ?_
       rotate_left
       ·simp only [Act.put, sA_, sZ_, sS_, i64_w, i32_w]
        rfl
       refine pure_ (i := 12) (N := some 27) (v := undef) (a' := ?_) #[true, true, true, true, true, true, true, true, true, true, true, true, true, false, false, false] rfl rfl (any_of HT_.out (by kernel_rfl)) (fun _ _ _ h => h) (Or.inr ⟨by rfl, rfl⟩) ?_ ?_
       rotate_left
       ·simp only [Act.put, sA_, sZ_, sS_, i64_w, i32_w]
        rfl
       refine pure_ (i := 13) (N := some 28) (v := undef) (a' := ?_) #[true, true, true, true, true, true, true, true, true, true, true, true, true, true, false, false] rfl rfl (any_of HT_.out (by kernel_rfl)) (fun _ _ _ h => h) (Or.inr ⟨by rfl, rfl⟩) ?_ ?_
       rotate_left
       ·simp only [Act.put, sA_, sZ_, sS_, i64_w, i32_w]
        rfl
       refine pure_ (i := 14) (N := some 29) (v := undef) (a' := ?_) #[true, true, true, true, true, true, true, true, true, true, true, true, true, true, true, false] rfl rfl (any_of HT_.out (by kernel_rfl)) (fun _ _ _ h => h) (Or.inr ⟨by rfl, rfl⟩) ?_ ?_
       rotate_left
       ·simp only [Act.put, sA_, sZ_, sS_, i64_w, i32_w]
        rfl
       refine pure_ (i := 15) (N := some 30) (v := ?_) (a' := ?_) #[true, true, true, true, true, true, true, true, true, true, true, true, true, true, true, true] rfl rfl (any_of HT_.out (by kernel_rfl)) (fun _ _ _ h => h) (Or.inl ⟨by rfl, ?_⟩) ?_ ?_
       rotate_left
       ·intro w'
        go_simp
        with_reducible rfl
       rotate_left
       ·simp only [Act.put, sA_, sZ_, sS_, i64_w, i32_w]
        rfl
       refine done_ (done_of HT_.out (by kernel_rfl)) ?_
       try go_wp2
       go_roundg k1
       case measure => have := HK1.out; omega
       case rel => exact ⟨(x3_1), (wrap64 (x10_1 + 1)), (by first | rfl | (simp; done) | (simp [*]; done)), (by first | rfl | (simp; done) | (simp [*]; done)), H', ⟨by have := HK1.out; omega⟩, ⟨by repeat (first | (with_reducible first | exact HB.out | apply bA_ | apply bN_ | apply bD_ | refine bS_ ?_ GE367.out) | exact HB.out)⟩⟩
     ·rw [if_neg c4] at H
      exact absurd H (by simp)
    ·rw [if_neg c3] at H
     exact absurd H (by simp)
   ·rw [if_neg c2] at H
    have c2b0 : decide (x10_1 < (l0.length : Int)) = false := decide_eq_false c2
    clear c2
    by_cases c33 : x3_1 ≥ 0
    ·rw [if_pos c33] at H
     have c33b0 : decide (0 ≤ x3_1) = true := decide_eq_true c33
     clear c33
     obtain ⟨y371, hy371⟩ : ∃ y_ : List Int, y_ = (([x3_1] : List Int)) := ⟨_, rfl⟩
     replace H : (some y371) = some r := by first | (rw [hy371]; with_reducible exact H) | (have H2_ := (Option.bind_some _ _).symm.trans H; rw [hy371]; with_reducible exact H2_) | (have H2_ := (Option.bind_some _ _).symm.trans H; with_reducible exact H2_) | with_reducible exact H | (rw [hy371]; exact H) | exact H
     have Ny371 := Az_.mk hy371
     clear hy371
     obtain rfl := Option.some.inj H
     go_wp2_with (first | ((with_reducible refine yah_ (N := 36) rfl ?_); refine Kd.R_lit (Kd.int .i64) _ 3 ?hg (N := 36) ?hd (xs := ([x3_1] : List Int)) (inner := [.int .i64 x3_1]) (ok := fun _ => True) (okp := fun _ => True) ?hr ?hp (fun _ hk => hk) trivial (Below.refl _ _) (Nat.le_refl _) (by simp) ?_; (case hd => rfl); (case hg => rfl); (case hr => first | (go_simp; done) | (go_simp; rfl)); (case hp => exact (Reps.one (show Kd.M (Kd.int .i64) _ _ _ x3_1 [.int .i64 x3_1] from rfl) (Reps.none _ _))); intro v372 w34 ho35 hb hg_ hnew_; clear hg_ hnew_; (first | rw [← Ny371.out] at ho35 | (simp only [Int.reduceToNat] at ho35; rw [← Ny371.out] at ho35)); have n0_ := Az_.mk (Kd.R_lower ho35 (bZ_ (by repeat (first | (with_reducible first | exact HB.out | apply bA_ | apply bN_ | apply bD_) | exact HB.out)))); have n1_ := Az_.mk (bT_ (by repeat (first | (with_reducible first | exact HB.out | apply bA_ | apply bN_ | apply bD_) | exact HB.out)) hb); clear HB; have HO373 := n0_; have HB := n1_; clear n0_ n1_; clear hb ho35))
     go_ret
     exact ⟨_, by first | rfl | (simp [yad_, yac_] <;> rfl) | (simp [*, yad_, yac_] <;> rfl), by (with_reducible repeat (first | apply Kd.R_alloc | apply Kd.R_drewN | apply Kd.R_drew)); exact HO373.out, by repeat (first | (with_reducible first | exact HB.out | apply bA_ | apply bN_ | apply bD_) | exact HB.out)⟩
    ·rw [if_neg c33] at H
     have c33b0 : decide (0 ≤ x3_1) = false := decide_eq_false c33
     clear c33
     have H' := Az_.mk H
     clear H
     go_wp2
     go_loopg [6, 39] k1 (fun kq v6 v39 w' => ∃ (x6_2 : List Int) (x39_2 : Int), v39 = .int .i64 x39_2 ∧ Az_ (order_Looked.l1 kq l0 x6_2 (l0.length : Int) x39_2 = some r) ∧ Az_ (kq ≤ k1) ∧ Az_ (Kd.R (Kd.int .i64) 3 w' w.heap.size (fun _ => True) v6 x6_2) ∧ Az_ (Below w.heap.size w w'))
     case atStart => exact ⟨(([] : List Int)), (0), (by first | rfl | (simp; done) | (simp [*]; done)), H', ⟨Nat.le_refl _⟩, ⟨by first | exact Kd.R_nil _ _ _ _ _ | exact Kd.N_nil _ _ _ _ _ | exact Kd.V_nil _ _ _ _ _ | exact Kd.Q_nil _ _ _ _ _ | exact Kd.S_nil _ _ _ _ _⟩, ⟨by repeat (first | (with_reducible first | exact HB.out | apply bA_ | apply bN_ | apply bD_) | exact HB.out)⟩⟩
     case round =>
      clear H'
      try clear c1
      try clear c2
      try clear c2b0
      try clear p2
      try clear c3
      try clear p3
      try clear q3
      try clear hx3
      try clear c4
      try clear q5
      try clear c6
      try clear p6
      try clear c8
      try clear c13
      try clear c14
      try clear c16
      try clear c16b0
      try clear c33
      try clear c33b0
      try clear hcz24_0
      try clear hcz24_1
      try clear hcz24_2
      try clear hcz24_3
      try clear hcz24_4
      try clear hcz30_0
      try clear hcz30_1
      try clear hcz30_2
      try clear hcz30_3
      try clear hcz30_4
      try clear hfz24_0
      try clear hfz24_1
      try clear hfz24_2
      try clear hfz24_3
      try clear hfz24_4
      try clear hfz30_0
      try clear hfz30_1
      try clear hfz30_2
      try clear hfz30_3
      try clear hfz30_4
      try clear hx366_0
      try clear hx366_1
      try clear hx366_2
      try clear hx366_3
      try clear hx366_4
      try clear hx369_0
      try clear hx369_1
      try clear hx369_2
      try clear hx369_3
      try clear hx369_4
      try clear p366
      try clear p369
      try clear q366
      try clear q369
      obtain ⟨x6_2, x39_2, rfl, HA, HK2, HO_6, HB⟩ := hrel
      cases gk with
      | zero => exact absurd HA.out (by simp [order_Looked.l1])
      | succ k2 =>
       have H := HA.out
       clear HA
       simp only [order_Looked.l1] at H
       by_cases c36 : x39_2 < (l0.length : Int)
       ·rw [if_pos c36] at H
        have c36b0 : decide (x39_2 < (l0.length : Int)) = true := decide_eq_true c36
        clear c36
        replace H := Option.bind_eq_some_iff.mp H
        obtain ⟨t374, A370, H⟩ := H
        replace H : (if t374 = true then (if x6_2.length < 17592186044416 then (order_Looked.l1 k2 l0 (x6_2 ++ [x39_2]) (l0.length : Int) (wrap64 (x39_2 + 1))) else (none)) else (order_Looked.l1 k2 l0 x6_2 (l0.length : Int) (wrap64 (x39_2 + 1)))) = some r := H
        have A37 := Az_.mk A370
        clear A370
        by_cases c38 : t374 = true
        ·subst c38
         have H1 : (if x6_2.length < 17592186044416 then (order_Looked.l1 k2 l0 (x6_2 ++ [x39_2]) (l0.length : Int) (wrap64 (x39_2 + 1))) else (none)) = some r := by rw [if_pos rfl] at H; exact H
         clear H
         have H := H1
         clear H1
         by_cases c39 : x6_2.length < 17592186044416
         ·rw [if_pos c39] at H
          have LMc39 := Az_.mk c39
          clear c39
          obtain ⟨y375, hy375⟩ : ∃ y_ : List Int, y_ = (x6_2 ++ [x39_2]) := ⟨_, rfl⟩
          replace H : (order_Looked.l1 k2 l0 y375 (l0.length : Int) (wrap64 (x39_2 + 1))) = some r := by first | (rw [hy375]; with_reducible exact H) | (have H2_ := (Option.bind_some _ _).symm.trans H; rw [hy375]; with_reducible exact H2_) | (have H2_ := (Option.bind_some _ _).symm.trans H; with_reducible exact H2_) | with_reducible exact H | (rw [hy375]; exact H) | exact H
          have Ny375 := Az_.mk hy375
          clear hy375
          have H' := Az_.mk H
          clear H
          go_wp2_with (first | ((with_reducible refine yae_ (f := 59) rfl ?_); refine goesL_ (some 44) rfl rfl Try.func59 (by kernel_rfl) rfl #[.slice A0 l0.length c0, .int .i64 x39_2] rfl (by (try simp only [List.map_toArray, List.map_cons, List.map_nil]); first | done | rfl | (simp only [List.length_drop, List.length_take]; rfl)) ?_; (with_reducible refine (order_Greatest.calls _ _ l0 x39_2 true _ ?side1 ?side2 A37.out).mono ?_); (case side1 => repeat (first | exact (Kd.C_below HR0.out HB.out) | (with_reducible refine Kd.C_alloc ?_ _) | (with_reducible refine Kd.C_drewN ?_ _) | (with_reducible refine Kd.C_drew ?_))); (case side2 => exact HC0.out); rintro e w40 ⟨rfl, hb⟩; refine ⟨_, rfl, ?_⟩; have n0_ := Az_.mk (Kd.R_below (by (with_reducible repeat (first | apply Kd.R_alloc | apply Kd.R_drewN | apply Kd.R_drew)); exact HO_6.out) hb); have n1_ := Az_.mk (bT_ (by repeat (first | (with_reducible first | exact HB.out | apply bA_ | apply bN_ | apply bD_) | exact HB.out)) hb); clear HO_6; clear HB; have HO_6 := n0_; have HB := n1_; clear n0_ n1_; (try clear hb); (try clear hb2); (try clear hk); (try clear hi)) | ((with_reducible refine gate_builtin (b := .append) (xs := #[.tmp 45, .tmp 47]) rfl ?_); at_builtin; refine Kd.R_append (Kd.int .i64) (w0 := w) w.heap.size rfl (.tmp 45) (.tmp 47) 25 3 (.int .i64 0) 8 rfl Try.underlying25 info3 rfl (by decide) (by omega) u6 x6_2 x39_2 [.int .i64 x39_2] (fun _ => True) (fun _ => False) rfl rfl ?aP (fun _ hk => hk.elim) ?aF ?aO ?aB ?aS ?aL ?_; (case aP => exact rfl); (case aB => exact (by repeat (first | (with_reducible first | exact HB.out | apply bA_ | apply bN_ | apply bD_) | exact HB.out))); (case aF => exact (fun _ _ => trivial)); (case aO => exact (by (with_reducible repeat (first | apply Kd.R_alloc | apply Kd.R_drewN | apply Kd.R_drew)); exact HO_6.out)); (case aS => exact (bZ_ (by repeat (first | (with_reducible first | exact HB.out | apply bA_ | apply bN_ | apply bD_) | exact HB.out)))); (case aL => have := LMc39.out; omega); intro v376 w41 ho hb hg hat; rw [← Ny375.out] at ho; have n0_ := Az_.mk (hb); have n1_ := Az_.mk (ho); clear HB; clear HO_6; have HB := n0_; have HO377 := n1_; clear n0_ n1_; clear ho hb hg hat))
          go_roundg k2
          case measure => have := HK1.out; have := HK2.out; omega
          case rel => exact ⟨(y375), (wrap64 (x39_2 + 1)), (by first | rfl | (simp; done) | (simp [*]; done)), H', ⟨by have := HK1.out; have := HK2.out; omega⟩, ⟨by (with_reducible repeat (first | apply Kd.R_alloc | apply Kd.R_drewN | apply Kd.R_drew)); exact HO377.out⟩, ⟨by repeat (first | (with_reducible first | exact HB.out | apply bA_ | apply bN_ | apply bD_) | exact HB.out)⟩⟩
         ·rw [if_neg c39] at H
          exact absurd H (by simp)
        ·replace c38 := Bool.eq_false_iff.mpr c38
         subst c38
         have H1 : (order_Looked.l1 k2 l0 x6_2 (l0.length : Int) (wrap64 (x39_2 + 1))) = some r := by rw [if_neg (show ¬ (false = true) by decide)] at H; exact H
         clear H
         have H := H1
         clear H1
         have H' := Az_.mk H
         clear H
         go_wp2_with (first | ((with_reducible refine yae_ (f := 59) rfl ?_); refine goesL_ (some 44) rfl rfl Try.func59 (by kernel_rfl) rfl #[.slice A0 l0.length c0, .int .i64 x39_2] rfl (by (try simp only [List.map_toArray, List.map_cons, List.map_nil]); first | done | rfl | (simp only [List.length_drop, List.length_take]; rfl)) ?_; (with_reducible refine (order_Greatest.calls _ _ l0 x39_2 false _ ?side1 ?side2 A37.out).mono ?_); (case side1 => repeat (first | exact (Kd.C_below HR0.out HB.out) | (with_reducible refine Kd.C_alloc ?_ _) | (with_reducible refine Kd.C_drewN ?_ _) | (with_reducible refine Kd.C_drew ?_))); (case side2 => exact HC0.out); rintro e w42 ⟨rfl, hb⟩; refine ⟨_, rfl, ?_⟩; have n0_ := Az_.mk (Kd.R_below (by (with_reducible repeat (first | apply Kd.R_alloc | apply Kd.R_drewN | apply Kd.R_drew)); exact HO_6.out) hb); have n1_ := Az_.mk (bT_ (by repeat (first | (with_reducible first | exact HB.out | apply bA_ | apply bN_ | apply bD_) | exact HB.out)) hb); clear HO_6; clear HB; have HO_6 := n0_; have HB := n1_; clear n0_ n1_; (try clear hb); (try clear hb2); (try clear hk); (try clear hi)))
         go_roundg k2
         case measure => have := HK1.out; have := HK2.out; omega
         case rel => exact ⟨(x6_2), (wrap64 (x39_2 + 1)), (by first | rfl | (simp; done) | (simp [*]; done)), H', ⟨by have := HK1.out; have := HK2.out; omega⟩, ⟨by (with_reducible repeat (first | apply Kd.R_alloc | apply Kd.R_drewN | apply Kd.R_drew)); exact HO_6.out⟩, ⟨by repeat (first | (with_reducible first | exact HB.out | apply bA_ | apply bN_ | apply bD_) | exact HB.out)⟩⟩
       ·rw [if_neg c36] at H
        have c36b0 : decide (x39_2 < (l0.length : Int)) = false := decide_eq_false c36
        clear c36
        obtain rfl := Option.some.inj H
        go_wp2
        go_ret
        exact ⟨_, by first | rfl | (simp [yad_, yac_] <;> rfl) | (simp [*, yad_, yac_] <;> rfl), by (with_reducible repeat (first | apply Kd.R_alloc | apply Kd.R_drewN | apply Kd.R_drew)); exact HO_6.out, by repeat (first | (with_reducible first | exact HB.out | apply bA_ | apply bN_ | apply bD_) | exact HB.out)⟩
end
section
attribute [local go_sem] max2_int min2_int max_two min_two yal_ yak_ max_four min_four
def soriteslaw14_alive.f (k : Nat)  : Option (Bool) := (order_Looked.f k (([(⟨false, (⟨1, ([] : List (S30))⟩ : S30), (⟨0, ([] : List (S30))⟩ : S30)⟩ : S78), (⟨true, (⟨2, ([] : List (S30))⟩ : S30), (⟨0, ([] : List (S30))⟩ : S30)⟩ : S78)] : List (S78)))).bind fun t381 => (if (t381.length : Int) = 1 then (if 0 < (t381.length : Int) then (if (rd t381 0) = 1 then ((order_Looked.f k ([] : List (S78))).bind fun t385 => (some ((t385.length : Int) == 0))) else (some false)) else (none)) else (some false))
set_option maxHeartbeats 8000000 in
set_option maxRecDepth 100000 in
theorem soriteslaw14_alive.calls (k : Nat)  (r : Bool) (w : World) (h : soriteslaw14_alive.f k  = some r) :
  Calls Try.prog 54 #[] w fun e w' => e = .returned (.bool r) ∧ Below w.heap.size w w' := by
 have hu30 := Try.underlying30
 have hu78 := Try.underlying78
 have HB := Az_.mk (Below.refl w.heap.size w)
 have H : ((order_Looked.f k (([(⟨false, (⟨1, ([] : List (S30))⟩ : S30), (⟨0, ([] : List (S30))⟩ : S30)⟩ : S78), (⟨true, (⟨2, ([] : List (S30))⟩ : S30), (⟨0, ([] : List (S30))⟩ : S30)⟩ : S78)] : List (S78)))).bind fun t381 => (if (t381.length : Int) = 1 then (if 0 < (t381.length : Int) then (if (rd t381 0) = 1 then ((order_Looked.f k ([] : List (S78))).bind fun t385 => (some ((t385.length : Int) == 0))) else (some false)) else (none)) else (some false))) = some r := h
 clear h
 obtain ⟨y378, hy378⟩ : ∃ y_ : List (S78), y_ = (([(⟨false, (⟨1, ([] : List (S30))⟩ : S30), (⟨0, ([] : List (S30))⟩ : S30)⟩ : S78), (⟨true, (⟨2, ([] : List (S30))⟩ : S30), (⟨0, ([] : List (S30))⟩ : S30)⟩ : S78)] : List (S78))) := ⟨_, rfl⟩
 replace H : ((order_Looked.f k y378).bind fun t381 => (if (t381.length : Int) = 1 then (if 0 < (t381.length : Int) then (if (rd t381 0) = 1 then ((order_Looked.f k ([] : List (S78))).bind fun t385 => (some ((t385.length : Int) == 0))) else (some false)) else (none)) else (some false))) = some r := by first | (rw [hy378]; with_reducible exact H) | (have H2_ := (Option.bind_some _ _).symm.trans H; rw [hy378]; with_reducible exact H2_) | (have H2_ := (Option.bind_some _ _).symm.trans H; with_reducible exact H2_) | with_reducible exact H | (rw [hy378]; exact H) | exact H
 have Ny378 := Az_.mk hy378
 clear hy378
 replace H := Option.bind_eq_some_iff.mp H
 obtain ⟨t381, A10, H⟩ := H
 replace H : (if (t381.length : Int) = 1 then (if 0 < (t381.length : Int) then (if (rd t381 0) = 1 then ((order_Looked.f k ([] : List (S78))).bind fun t385 => (some ((t385.length : Int) == 0))) else (some false)) else (none)) else (some false)) = some r := H
 have A1 := Az_.mk A10
 clear A10
 by_cases c2 : (t381.length : Int) = 1
 ·rw [if_pos c2] at H
  have c2b0 : ((t381.length : Int) == 1) = true := beq_iff_eq.mpr c2
  have c2b1 : ((t381.length : Int) != 1) = false := bne_eq_false_iff_eq.mpr c2
  clear c2
  by_cases c3 : 0 < (t381.length : Int)
  ·rw [if_pos c3] at H
   have c3b0 : decide (0 < (t381.length : Int)) = true := decide_eq_true c3
   have c3b1 : decide (0 < t381.length) = true := decide_eq_true (by omega)
   clear c3
   by_cases c4 : (rd t381 0) = 1
   ·rw [if_pos c4] at H
    have c4b0 : ((rd t381 0) == 1) = true := beq_iff_eq.mpr c4
    have c4b1 : ((rd t381 0) != 1) = false := bne_eq_false_iff_eq.mpr c4
    clear c4
    replace H := Option.bind_eq_some_iff.mp H
    obtain ⟨t385, A50, H⟩ := H
    replace H : (some ((t385.length : Int) == 0)) = some r := H
    have A5 := Az_.mk A50
    clear A50
    obtain rfl := Option.some.inj H
    go_enter Try.func54, Try.ntmps54
    go_wp2_with (first | ((with_reducible refine yah_ (N := 6) rfl ?_); (try (refine gate_guard (by rfl) ?_; dsimp only)); refine Kd.R_lit k78 _ 78 ?hg (N := 6) ?hd (xs := ([(⟨false, (⟨1, ([] : List (S30))⟩ : S30), (⟨0, ([] : List (S30))⟩ : S30)⟩ : S78), (⟨true, (⟨2, ([] : List (S30))⟩ : S30), (⟨0, ([] : List (S30))⟩ : S30)⟩ : S78)] : List (S78))) (inner := [.bool false, .int .i64 1, .slice none 0 0, .int .i64 0, .slice none 0 0, .bool true, .int .i64 2, .slice none 0 0, .int .i64 0, .slice none 0 0]) (ok := fun _ => True) (okp := fun _ => True) ?hr ?hp (fun _ hk => hk) trivial (Below.refl _ _) (Nat.le_refl _) (by simp) ?_; (case hd => rfl); (case hg => rfl); (case hr => first | (go_simp; done) | (go_simp; rfl)); (case hp => exact (Reps.c5 (show Kd.M k78 _ _ _ (⟨false, (⟨1, ([] : List (S30))⟩ : S30), (⟨0, ([] : List (S30))⟩ : S30)⟩ : S78) [.bool false, .int .i64 1, .slice none 0 0, .int .i64 0, .slice none 0 0] from (k78_mkM _ _ _ (⟨false, (⟨1, ([] : List (S30))⟩ : S30), (⟨0, ([] : List (S30))⟩ : S30)⟩ : S78) (Kd.R_nil _ _ _ _ _) (Kd.R_nil _ _ _ _ _))) (Reps.c5 (show Kd.M k78 _ _ _ (⟨true, (⟨2, ([] : List (S30))⟩ : S30), (⟨0, ([] : List (S30))⟩ : S30)⟩ : S78) [.bool true, .int .i64 2, .slice none 0 0, .int .i64 0, .slice none 0 0] from (k78_mkM _ _ _ (⟨true, (⟨2, ([] : List (S30))⟩ : S30), (⟨0, ([] : List (S30))⟩ : S30)⟩ : S78) (Kd.R_nil _ _ _ _ _) (Kd.R_nil _ _ _ _ _))) (Reps.none _ _)))); intro v379 w6 ho7 hb hg_ hnew_; clear hg_ hnew_; (first | rw [← Ny378.out] at ho7 | (simp only [Int.reduceToNat] at ho7; rw [← Ny378.out] at ho7)); have n0_ := Az_.mk (Kd.R_lower ho7 (bZ_ (by repeat (first | (with_reducible first | exact HB.out | apply bA_ | apply bN_ | apply bD_) | exact HB.out)))); have n1_ := Az_.mk (bT_ (by repeat (first | (with_reducible first | exact HB.out | apply bA_ | apply bN_ | apply bD_) | exact HB.out)) hb); clear HB; have HO380 := n0_; have HB := n1_; clear n0_ n1_; clear hb ho7; obtain ⟨Ao8, co8, eo8⟩ := Kd.R_slice HO380.out; subst eo8) | ((with_reducible refine yae_ (f := 58) rfl ?_); refine goesL_ (some 7) rfl rfl Try.func58 (by kernel_rfl) rfl #[.slice Ao8 y378.length co8] rfl (by (try simp only [List.map_toArray, List.map_cons, List.map_nil]); first | done | rfl | (simp only [List.length_drop, List.length_take]; rfl)) ?_; (with_reducible refine (order_Looked.calls k _ _ y378 t381 _ ?side1 ?side2 A1.out).mono ?_); (case side1 => repeat (first | exact (Kd.R_reads' HO380.out).2.2 | (with_reducible refine Kd.C_alloc ?_ _) | (with_reducible refine Kd.C_drewN ?_ _) | (with_reducible refine Kd.C_drew ?_))); (case side2 => exact (Kd.R_reads' HO380.out).2.1); rintro e w9 ⟨v382, rfl, ho0, hb⟩; refine ⟨_, rfl, ?_⟩; have n0_ := Az_.mk (Kd.R_below (by (with_reducible repeat (first | apply Kd.R_alloc | apply Kd.R_drewN | apply Kd.R_drew)); exact HO380.out) hb); have n1_ := Az_.mk (Kd.R_lower ho0 (bZ_ (by repeat (first | (with_reducible first | exact HB.out | apply bA_ | apply bN_ | apply bD_) | exact HB.out)))); have n2_ := Az_.mk (bT_ (by repeat (first | (with_reducible first | exact HB.out | apply bA_ | apply bN_ | apply bD_) | exact HB.out)) hb); clear HO380; clear HB; have HO380 := n0_; have HO383 := n1_; have HB := n2_; clear n0_ n1_ n2_; (try clear hb); (try clear hb2); (try clear hk); (try clear hi); (try clear ho0); obtain ⟨Ao10, co10, eo10⟩ := Kd.R_slice HO383.out; subst eo10; have p384 : 0 ≤ (0 : Int) := (by omega); have q384 : 0 < (t381.length : Int) := of_decide_eq_true (by first | (with_reducible assumption) | assumption); obtain ⟨ad384, e384, hx384_0⟩ := Kd.at_int (Kd.R_reads' HO383.out).2.2 0 p384 q384; cases e384; have qi384 : (0 < t381.length) = True := eq_true (by omega); (try rw [show ((0 : Int)).toNat = 0 from rfl] at hx384_0); (try rw [Addr.add_zero'] at hx384_0); replace p384 := eq_true p384; replace q384 := eq_true q384) | (go_at_call 58; (refine (order_Looked.calls k _ _ ([] : List (S78)) t385 _ ?side1 ?side2 A5.out).mono ?_); (case side1 => exact Kd.C_nil _ _); (case side2 => exact Nat.le_refl _); rintro e w11 ⟨v386, rfl, ho0, hb⟩; have n0_ := Az_.mk (Kd.R_below (by (with_reducible repeat (first | apply Kd.R_alloc | apply Kd.R_drewN | apply Kd.R_drew)); exact HO380.out) hb); have n1_ := Az_.mk (Kd.R_elder' (by (with_reducible repeat (first | apply Kd.R_alloc | apply Kd.R_drewN | apply Kd.R_drew)); exact HO383.out) (Kd.R_base ho0) hb); have n2_ := Az_.mk (Kd.R_lower (Kd.R_new' ho0 (Kd.R_lt (by (with_reducible repeat (first | apply Kd.R_alloc | apply Kd.R_drewN | apply Kd.R_drew)); exact HO383.out))) (bZ_ (by repeat (first | (with_reducible first | exact HB.out | apply bA_ | apply bN_ | apply bD_) | exact HB.out)))); have n3_ := Az_.mk (bT_ (by repeat (first | (with_reducible first | exact HB.out | apply bA_ | apply bN_ | apply bD_) | exact HB.out)) hb); clear HO380; clear HO383; clear HB; have HO380 := n0_; have HO383 := n1_; have HO387 := n2_; have HB := n3_; clear n0_ n1_ n2_ n3_; (try clear hb); (try clear hb2); (try clear hk); (try clear hi); (try clear ho0); obtain ⟨Ao12, co12, eo12⟩ := Kd.R_slice HO387.out; subst eo12))
    go_ret
    exact ⟨by first | rfl | (simp [yad_, yac_] <;> rfl) | (simp [*, yad_, yac_] <;> rfl), by repeat (first | (with_reducible first | exact HB.out | apply bA_ | apply bN_ | apply bD_) | exact HB.out)⟩
   ·rw [if_neg c4] at H
    have c4b0 : ((rd t381 0) == 1) = false := beq_eq_false_iff_ne.mpr c4
    have c4b1 : ((rd t381 0) != 1) = true := bne_iff_ne.mpr c4
    obtain rfl := Option.some.inj H
    go_enter Try.func54, Try.ntmps54
    go_wp2_with (first | ((with_reducible refine yah_ (N := 6) rfl ?_); (try (refine gate_guard (by rfl) ?_; dsimp only)); refine Kd.R_lit k78 _ 78 ?hg (N := 6) ?hd (xs := ([(⟨false, (⟨1, ([] : List (S30))⟩ : S30), (⟨0, ([] : List (S30))⟩ : S30)⟩ : S78), (⟨true, (⟨2, ([] : List (S30))⟩ : S30), (⟨0, ([] : List (S30))⟩ : S30)⟩ : S78)] : List (S78))) (inner := [.bool false, .int .i64 1, .slice none 0 0, .int .i64 0, .slice none 0 0, .bool true, .int .i64 2, .slice none 0 0, .int .i64 0, .slice none 0 0]) (ok := fun _ => True) (okp := fun _ => True) ?hr ?hp (fun _ hk => hk) trivial (Below.refl _ _) (Nat.le_refl _) (by simp) ?_; (case hd => rfl); (case hg => rfl); (case hr => first | (go_simp; done) | (go_simp; rfl)); (case hp => exact (Reps.c5 (show Kd.M k78 _ _ _ (⟨false, (⟨1, ([] : List (S30))⟩ : S30), (⟨0, ([] : List (S30))⟩ : S30)⟩ : S78) [.bool false, .int .i64 1, .slice none 0 0, .int .i64 0, .slice none 0 0] from (k78_mkM _ _ _ (⟨false, (⟨1, ([] : List (S30))⟩ : S30), (⟨0, ([] : List (S30))⟩ : S30)⟩ : S78) (Kd.R_nil _ _ _ _ _) (Kd.R_nil _ _ _ _ _))) (Reps.c5 (show Kd.M k78 _ _ _ (⟨true, (⟨2, ([] : List (S30))⟩ : S30), (⟨0, ([] : List (S30))⟩ : S30)⟩ : S78) [.bool true, .int .i64 2, .slice none 0 0, .int .i64 0, .slice none 0 0] from (k78_mkM _ _ _ (⟨true, (⟨2, ([] : List (S30))⟩ : S30), (⟨0, ([] : List (S30))⟩ : S30)⟩ : S78) (Kd.R_nil _ _ _ _ _) (Kd.R_nil _ _ _ _ _))) (Reps.none _ _)))); intro v379 w13 ho14 hb hg_ hnew_; clear hg_ hnew_; (first | rw [← Ny378.out] at ho14 | (simp only [Int.reduceToNat] at ho14; rw [← Ny378.out] at ho14)); have n0_ := Az_.mk (Kd.R_lower ho14 (bZ_ (by repeat (first | (with_reducible first | exact HB.out | apply bA_ | apply bN_ | apply bD_) | exact HB.out)))); have n1_ := Az_.mk (bT_ (by repeat (first | (with_reducible first | exact HB.out | apply bA_ | apply bN_ | apply bD_) | exact HB.out)) hb); clear HB; have HO380 := n0_; have HB := n1_; clear n0_ n1_; clear hb ho14; obtain ⟨Ao15, co15, eo15⟩ := Kd.R_slice HO380.out; subst eo15) | ((with_reducible refine yae_ (f := 58) rfl ?_); refine goesL_ (some 7) rfl rfl Try.func58 (by kernel_rfl) rfl #[.slice Ao15 y378.length co15] rfl (by (try simp only [List.map_toArray, List.map_cons, List.map_nil]); first | done | rfl | (simp only [List.length_drop, List.length_take]; rfl)) ?_; (with_reducible refine (order_Looked.calls k _ _ y378 t381 _ ?side1 ?side2 A1.out).mono ?_); (case side1 => repeat (first | exact (Kd.R_reads' HO380.out).2.2 | (with_reducible refine Kd.C_alloc ?_ _) | (with_reducible refine Kd.C_drewN ?_ _) | (with_reducible refine Kd.C_drew ?_))); (case side2 => exact (Kd.R_reads' HO380.out).2.1); rintro e w16 ⟨v382, rfl, ho0, hb⟩; refine ⟨_, rfl, ?_⟩; have n0_ := Az_.mk (Kd.R_below (by (with_reducible repeat (first | apply Kd.R_alloc | apply Kd.R_drewN | apply Kd.R_drew)); exact HO380.out) hb); have n1_ := Az_.mk (Kd.R_lower ho0 (bZ_ (by repeat (first | (with_reducible first | exact HB.out | apply bA_ | apply bN_ | apply bD_) | exact HB.out)))); have n2_ := Az_.mk (bT_ (by repeat (first | (with_reducible first | exact HB.out | apply bA_ | apply bN_ | apply bD_) | exact HB.out)) hb); clear HO380; clear HB; have HO380 := n0_; have HO383 := n1_; have HB := n2_; clear n0_ n1_ n2_; (try clear hb); (try clear hb2); (try clear hk); (try clear hi); (try clear ho0); obtain ⟨Ao17, co17, eo17⟩ := Kd.R_slice HO383.out; subst eo17; have p384 : 0 ≤ (0 : Int) := (by omega); have q384 : 0 < (t381.length : Int) := of_decide_eq_true (by first | (with_reducible assumption) | assumption); obtain ⟨ad384, e384, hx384_0⟩ := Kd.at_int (Kd.R_reads' HO383.out).2.2 0 p384 q384; cases e384; have qi384 : (0 < t381.length) = True := eq_true (by omega); (try rw [show ((0 : Int)).toNat = 0 from rfl] at hx384_0); (try rw [Addr.add_zero'] at hx384_0); replace p384 := eq_true p384; replace q384 := eq_true q384))
    go_ret
    exact ⟨by first | rfl | (simp [yad_, yac_] <;> rfl) | (simp [*, yad_, yac_] <;> rfl), by repeat (first | (with_reducible first | exact HB.out | apply bA_ | apply bN_ | apply bD_) | exact HB.out)⟩
  ·rw [if_neg c3] at H
   exact absurd H (by simp)
 ·rw [if_neg c2] at H
  have c2b0 : ((t381.length : Int) == 1) = false := beq_eq_false_iff_ne.mpr c2
  have c2b1 : ((t381.length : Int) != 1) = true := bne_iff_ne.mpr c2
  obtain rfl := Option.some.inj H
  go_enter Try.func54, Try.ntmps54
  go_wp2_with (first | ((with_reducible refine yah_ (N := 6) rfl ?_); (try (refine gate_guard (by rfl) ?_; dsimp only)); refine Kd.R_lit k78 _ 78 ?hg (N := 6) ?hd (xs := ([(⟨false, (⟨1, ([] : List (S30))⟩ : S30), (⟨0, ([] : List (S30))⟩ : S30)⟩ : S78), (⟨true, (⟨2, ([] : List (S30))⟩ : S30), (⟨0, ([] : List (S30))⟩ : S30)⟩ : S78)] : List (S78))) (inner := [.bool false, .int .i64 1, .slice none 0 0, .int .i64 0, .slice none 0 0, .bool true, .int .i64 2, .slice none 0 0, .int .i64 0, .slice none 0 0]) (ok := fun _ => True) (okp := fun _ => True) ?hr ?hp (fun _ hk => hk) trivial (Below.refl _ _) (Nat.le_refl _) (by simp) ?_; (case hd => rfl); (case hg => rfl); (case hr => first | (go_simp; done) | (go_simp; rfl)); (case hp => exact (Reps.c5 (show Kd.M k78 _ _ _ (⟨false, (⟨1, ([] : List (S30))⟩ : S30), (⟨0, ([] : List (S30))⟩ : S30)⟩ : S78) [.bool false, .int .i64 1, .slice none 0 0, .int .i64 0, .slice none 0 0] from (k78_mkM _ _ _ (⟨false, (⟨1, ([] : List (S30))⟩ : S30), (⟨0, ([] : List (S30))⟩ : S30)⟩ : S78) (Kd.R_nil _ _ _ _ _) (Kd.R_nil _ _ _ _ _))) (Reps.c5 (show Kd.M k78 _ _ _ (⟨true, (⟨2, ([] : List (S30))⟩ : S30), (⟨0, ([] : List (S30))⟩ : S30)⟩ : S78) [.bool true, .int .i64 2, .slice none 0 0, .int .i64 0, .slice none 0 0] from (k78_mkM _ _ _ (⟨true, (⟨2, ([] : List (S30))⟩ : S30), (⟨0, ([] : List (S30))⟩ : S30)⟩ : S78) (Kd.R_nil _ _ _ _ _) (Kd.R_nil _ _ _ _ _))) (Reps.none _ _)))); intro v379 w18 ho19 hb hg_ hnew_; clear hg_ hnew_; (first | rw [← Ny378.out] at ho19 | (simp only [Int.reduceToNat] at ho19; rw [← Ny378.out] at ho19)); have n0_ := Az_.mk (Kd.R_lower ho19 (bZ_ (by repeat (first | (with_reducible first | exact HB.out | apply bA_ | apply bN_ | apply bD_) | exact HB.out)))); have n1_ := Az_.mk (bT_ (by repeat (first | (with_reducible first | exact HB.out | apply bA_ | apply bN_ | apply bD_) | exact HB.out)) hb); clear HB; have HO380 := n0_; have HB := n1_; clear n0_ n1_; clear hb ho19; obtain ⟨Ao20, co20, eo20⟩ := Kd.R_slice HO380.out; subst eo20) | ((with_reducible refine yae_ (f := 58) rfl ?_); refine goesL_ (some 7) rfl rfl Try.func58 (by kernel_rfl) rfl #[.slice Ao20 y378.length co20] rfl (by (try simp only [List.map_toArray, List.map_cons, List.map_nil]); first | done | rfl | (simp only [List.length_drop, List.length_take]; rfl)) ?_; (with_reducible refine (order_Looked.calls k _ _ y378 t381 _ ?side1 ?side2 A1.out).mono ?_); (case side1 => repeat (first | exact (Kd.R_reads' HO380.out).2.2 | (with_reducible refine Kd.C_alloc ?_ _) | (with_reducible refine Kd.C_drewN ?_ _) | (with_reducible refine Kd.C_drew ?_))); (case side2 => exact (Kd.R_reads' HO380.out).2.1); rintro e w21 ⟨v382, rfl, ho0, hb⟩; refine ⟨_, rfl, ?_⟩; have n0_ := Az_.mk (Kd.R_below (by (with_reducible repeat (first | apply Kd.R_alloc | apply Kd.R_drewN | apply Kd.R_drew)); exact HO380.out) hb); have n1_ := Az_.mk (Kd.R_lower ho0 (bZ_ (by repeat (first | (with_reducible first | exact HB.out | apply bA_ | apply bN_ | apply bD_) | exact HB.out)))); have n2_ := Az_.mk (bT_ (by repeat (first | (with_reducible first | exact HB.out | apply bA_ | apply bN_ | apply bD_) | exact HB.out)) hb); clear HO380; clear HB; have HO380 := n0_; have HO383 := n1_; have HB := n2_; clear n0_ n1_ n2_; (try clear hb); (try clear hb2); (try clear hk); (try clear hi); (try clear ho0); obtain ⟨Ao22, co22, eo22⟩ := Kd.R_slice HO383.out; subst eo22))
  go_ret
  exact ⟨by first | rfl | (simp [yad_, yac_] <;> rfl) | (simp [*, yad_, yac_] <;> rfl), by repeat (first | (with_reducible first | exact HB.out | apply bA_ | apply bN_ | apply bD_) | exact HB.out)⟩
end
section
attribute [local go_sem] max2_int min2_int max_two min_two yal_ yak_ max_four min_four
def soriteslaw11_Fine.l0 : Nat → List (S81) → Int → Int → Option (Bool)
 | 0, _, _, _ => none
 | k + 1, x0, x2, x7 => if x7 < (x0.length : Int) then (if 0 ≤ x7 then ((soriteslaw06_Small.f k ((rd_T81 x0 x7).f1.f0) ((rd_T81 x0 x7).f1.f1) x2 8).bind fun t389 => (if t389 < 0 then (some false) else ((soriteslaw06_Small.f k ((rd_T81 x0 x7).f2.f0) ((rd_T81 x0 x7).f2.f1) x2 8).bind fun t391 => (if t391 < 0 then (some false) else (soriteslaw11_Fine.l0 k x0 x2 (wrap64 (x7 + 1))))))) else (none)) else (some true)
def soriteslaw11_Fine.f (k : Nat) (l0 : List (S81)) (a1 : Int) (a2 : Int) : Option (Bool) := if (l0.length : Int) > a1 then (some false) else (soriteslaw11_Fine.l0 k l0 a2 0)
set_option maxHeartbeats 8000000 in
set_option maxRecDepth 100000 in
theorem soriteslaw11_Fine.calls (k : Nat) (A0 : Option Addr) (c0 : Nat) (l0 : List (S81)) (a1 : Int) (a2 : Int) (r : Bool) (w : World) (hr0 : Kd.C k81 w A0 l0.length l0) (hc0 : l0.length ≤ c0) (h : soriteslaw11_Fine.f k l0 a1 a2 = some r) :
  Calls Try.prog 55 #[.slice A0 l0.length c0, .int .i64 a1, .int .i64 a2] w fun e w' => e = .returned (.bool r) ∧ Below w.heap.size w w' := by
 have hu24 := Try.underlying24
 have HR0 := Az_.mk hr0
 have HC0 := Az_.mk hc0
 clear hr0 hc0
 have HB := Az_.mk (Below.refl w.heap.size w)
 have H : (if (l0.length : Int) > a1 then (some false) else (soriteslaw11_Fine.l0 k l0 a2 0)) = some r := h
 clear h
 by_cases c4 : (l0.length : Int) > a1
 ·rw [if_pos c4] at H
  have c4b0 : decide (a1 < (l0.length : Int)) = true := decide_eq_true c4
  clear c4
  obtain rfl := Option.some.inj H
  go_enter Try.func55, Try.ntmps55
  go_wp2
  go_ret
  exact ⟨by first | rfl | (simp [yad_, yac_] <;> rfl) | (simp [*, yad_, yac_] <;> rfl), by repeat (first | (with_reducible first | exact HB.out | apply bA_ | apply bN_ | apply bD_) | exact HB.out)⟩
 ·rw [if_neg c4] at H
  have c4b0 : decide (a1 < (l0.length : Int)) = false := decide_eq_false c4
  clear c4
  have H' := Az_.mk H
  clear H
  go_enter Try.func55, Try.ntmps55
  go_wp2
  go_loopg [7] k (fun kq v7 w' => ∃ (x7_1 : Int), v7 = .int .i64 x7_1 ∧ Az_ (soriteslaw11_Fine.l0 kq l0 a2 x7_1 = some r) ∧ Az_ (kq ≤ k) ∧ Az_ (Below w.heap.size w w'))
  case atStart => exact ⟨(0), (by first | rfl | (simp; done) | (simp [*]; done)), H', ⟨Nat.le_refl _⟩, ⟨by repeat (first | (with_reducible first | exact HB.out | apply bA_ | apply bN_ | apply bD_) | exact HB.out)⟩⟩
  case round =>
   clear H'
   try clear p2
   try clear c4
   try clear c4b0
   obtain ⟨x7_1, rfl, HA, HK1, HB⟩ := hrel
   cases gk with
   | zero => exact absurd HA.out (by simp [soriteslaw11_Fine.l0])
   | succ k1 =>
    have H := HA.out
    clear HA
    simp only [soriteslaw11_Fine.l0] at H
    by_cases c5 : x7_1 < (l0.length : Int)
    ·rw [if_pos c5] at H
     have c5b0 : decide (x7_1 < (l0.length : Int)) = true := decide_eq_true c5
     clear c5
     by_cases c6 : 0 ≤ x7_1
     ·rw [if_pos c6] at H
      have c6b0 : decide (0 ≤ x7_1) = true := decide_eq_true c6
      clear c6
      replace H := Option.bind_eq_some_iff.mp H
      obtain ⟨t389, A70, H⟩ := H
      replace H : (if t389 < 0 then (some false) else ((soriteslaw06_Small.f k1 ((rd_T81 l0 x7_1).f2.f0) ((rd_T81 l0 x7_1).f2.f1) a2 8).bind fun t391 => (if t391 < 0 then (some false) else (soriteslaw11_Fine.l0 k1 l0 a2 (wrap64 (x7_1 + 1)))))) = some r := H
      have A7 := Az_.mk A70
      clear A70
      by_cases c8 : t389 < 0
      ·rw [if_pos c8] at H
       have c8b0 : decide (t389 < 0) = true := decide_eq_true c8
       clear c8
       obtain rfl := Option.some.inj H
       have p388 : 0 ≤ (x7_1 : Int) := of_decide_eq_true (by first | (with_reducible assumption) | assumption)
       have q388 : x7_1 < (l0.length : Int) := of_decide_eq_true (by first | (with_reducible assumption) | assumption)
       obtain ⟨ad388, A388_2, c388_2, A388_4, c388_4, e388, hx388_0, hx388_1, hx388_2, hx388_3, hx388_4, hl388_2, hi388_2, hl388_4, hi388_4⟩ := at_T81 HR0.out x7_1 p388 q388
       cases e388
       replace hx388_0 := (HB.out.cell (World.block_lt_of_cell? w _ hx388_0)).trans hx388_0
       replace hx388_1 := (HB.out.cell (World.block_lt_of_cell? w _ hx388_1)).trans hx388_1
       replace hx388_2 := (HB.out.cell (World.block_lt_of_cell? w _ hx388_2)).trans hx388_2
       replace hx388_3 := (HB.out.cell (World.block_lt_of_cell? w _ hx388_3)).trans hx388_3
       replace hx388_4 := (HB.out.cell (World.block_lt_of_cell? w _ hx388_4)).trans hx388_4
       have HR388_2 := Az_.mk hi388_2
       have HC388_2 := Az_.mk hl388_2
       clear hi388_2 hl388_2
       have HR388_4 := Az_.mk hi388_4
       have HC388_4 := Az_.mk hl388_4
       clear hi388_4 hl388_4
       replace p388 := eq_true p388
       replace q388 := eq_true q388
       go_wp2_with (first | ((with_reducible refine yae_ (f := 50) rfl ?_); refine goesL_ (some 24) rfl rfl Try.func50 (by kernel_rfl) rfl #[.agg #[.int .i64 ((rd_T81 l0 x7_1).f1.f0), .slice A388_2 ((rd_T81 l0 x7_1).f1.f1).length c388_2], .int .i64 a2, .int .i64 8] rfl (by (try simp only [List.map_toArray, List.map_cons, List.map_nil]); first | done | rfl | (simp only [List.length_drop, List.length_take]; rfl)) ?_; (with_reducible refine (soriteslaw06_Small.calls k1 ((rd_T81 l0 x7_1).f1.f0) _ _ ((rd_T81 l0 x7_1).f1.f1) a2 8 t389 _ ?side1 ?side2 A7.out).mono ?_); (case side1 => repeat (first | exact (Kd.C_below HR388_2.out HB.out) | (with_reducible refine Kd.C_alloc ?_ _) | (with_reducible refine Kd.C_drewN ?_ _) | (with_reducible refine Kd.C_drew ?_))); (case side2 => exact HC388_2.out); rintro e w9 ⟨rfl, hb⟩; refine ⟨_, rfl, ?_⟩; have n0_ := Az_.mk (bT_ (by repeat (first | (with_reducible first | exact HB.out | apply bA_ | apply bN_ | apply bD_) | exact HB.out)) hb); clear HB; have HB := n0_; clear n0_; (try clear hb); (try clear hb2); (try clear hk); (try clear hi)))
       go_ret
       exact ⟨by first | rfl | (simp [yad_, yac_] <;> rfl) | (simp [*, yad_, yac_] <;> rfl), by repeat (first | (with_reducible first | exact HB.out | apply bA_ | apply bN_ | apply bD_) | exact HB.out)⟩
      ·rw [if_neg c8] at H
       have c8b0 : decide (t389 < 0) = false := decide_eq_false c8
       clear c8
       replace H := Option.bind_eq_some_iff.mp H
       obtain ⟨t391, A100, H⟩ := H
       replace H : (if t391 < 0 then (some false) else (soriteslaw11_Fine.l0 k1 l0 a2 (wrap64 (x7_1 + 1)))) = some r := H
       have A10 := Az_.mk A100
       clear A100
       by_cases c11 : t391 < 0
       ·rw [if_pos c11] at H
        have c11b0 : decide (t391 < 0) = true := decide_eq_true c11
        clear c11
        obtain rfl := Option.some.inj H
        have p388 : 0 ≤ (x7_1 : Int) := of_decide_eq_true (by first | (with_reducible assumption) | assumption)
        have q388 : x7_1 < (l0.length : Int) := of_decide_eq_true (by first | (with_reducible assumption) | assumption)
        obtain ⟨ad388, A388_2, c388_2, A388_4, c388_4, e388, hx388_0, hx388_1, hx388_2, hx388_3, hx388_4, hl388_2, hi388_2, hl388_4, hi388_4⟩ := at_T81 HR0.out x7_1 p388 q388
        cases e388
        replace hx388_0 := (HB.out.cell (World.block_lt_of_cell? w _ hx388_0)).trans hx388_0
        replace hx388_1 := (HB.out.cell (World.block_lt_of_cell? w _ hx388_1)).trans hx388_1
        replace hx388_2 := (HB.out.cell (World.block_lt_of_cell? w _ hx388_2)).trans hx388_2
        replace hx388_3 := (HB.out.cell (World.block_lt_of_cell? w _ hx388_3)).trans hx388_3
        replace hx388_4 := (HB.out.cell (World.block_lt_of_cell? w _ hx388_4)).trans hx388_4
        have HR388_2 := Az_.mk hi388_2
        have HC388_2 := Az_.mk hl388_2
        clear hi388_2 hl388_2
        have HR388_4 := Az_.mk hi388_4
        have HC388_4 := Az_.mk hl388_4
        clear hi388_4 hl388_4
        replace p388 := eq_true p388
        replace q388 := eq_true q388
        go_wp2_with (first | ((with_reducible refine yae_ (f := 50) rfl ?_); refine goesL_ (some 24) rfl rfl Try.func50 (by kernel_rfl) rfl #[.agg #[.int .i64 ((rd_T81 l0 x7_1).f1.f0), .slice A388_2 ((rd_T81 l0 x7_1).f1.f1).length c388_2], .int .i64 a2, .int .i64 8] rfl (by (try simp only [List.map_toArray, List.map_cons, List.map_nil]); first | done | rfl | (simp only [List.length_drop, List.length_take]; rfl)) ?_; (with_reducible refine (soriteslaw06_Small.calls k1 ((rd_T81 l0 x7_1).f1.f0) _ _ ((rd_T81 l0 x7_1).f1.f1) a2 8 t389 _ ?side1 ?side2 A7.out).mono ?_); (case side1 => repeat (first | exact (Kd.C_below HR388_2.out HB.out) | (with_reducible refine Kd.C_alloc ?_ _) | (with_reducible refine Kd.C_drewN ?_ _) | (with_reducible refine Kd.C_drew ?_))); (case side2 => exact HC388_2.out); rintro e w12 ⟨rfl, hb⟩; refine ⟨_, rfl, ?_⟩; have n0_ := Az_.mk (bT_ (by repeat (first | (with_reducible first | exact HB.out | apply bA_ | apply bN_ | apply bD_) | exact HB.out)) hb); clear HB; have HB := n0_; clear n0_; (try clear hb); (try clear hb2); (try clear hk); (try clear hi); have p390 : 0 ≤ (x7_1 : Int) := of_decide_eq_true (by first | (with_reducible assumption) | assumption); have q390 : x7_1 < (l0.length : Int) := of_decide_eq_true (by first | (with_reducible assumption) | assumption); obtain ⟨ad390, A390_2, c390_2, A390_4, c390_4, e390, hx390_0, hx390_1, hx390_2, hx390_3, hx390_4, hl390_2, hi390_2, hl390_4, hi390_4⟩ := at_T81 HR0.out x7_1 p390 q390; obtain rfl : ad388 = ad390 := (by injection e390); replace hx390_0 := (HB.out.cell (World.block_lt_of_cell? w _ hx390_0)).trans hx390_0; replace hx390_1 := (HB.out.cell (World.block_lt_of_cell? w _ hx390_1)).trans hx390_1; replace hx390_2 := (HB.out.cell (World.block_lt_of_cell? w _ hx390_2)).trans hx390_2; replace hx390_3 := (HB.out.cell (World.block_lt_of_cell? w _ hx390_3)).trans hx390_3; replace hx390_4 := (HB.out.cell (World.block_lt_of_cell? w _ hx390_4)).trans hx390_4; have HR390_2 := Az_.mk hi390_2; have HC390_2 := Az_.mk hl390_2; clear hi390_2 hl390_2; have HR390_4 := Az_.mk hi390_4; have HC390_4 := Az_.mk hl390_4; clear hi390_4 hl390_4; replace p390 := eq_true p390; replace q390 := eq_true q390) | (go_at_call 50; (with_reducible refine (soriteslaw06_Small.calls k1 ((rd_T81 l0 x7_1).f2.f0) _ _ ((rd_T81 l0 x7_1).f2.f1) a2 8 t391 _ ?side1 ?side2 A10.out).mono ?_); (case side1 => repeat (first | exact (Kd.C_below HR390_4.out HB.out) | (with_reducible refine Kd.C_alloc ?_ _) | (with_reducible refine Kd.C_drewN ?_ _) | (with_reducible refine Kd.C_drew ?_))); (case side2 => exact HC390_4.out); rintro e w13 ⟨rfl, hb⟩; have n0_ := Az_.mk (bT_ (by repeat (first | (with_reducible first | exact HB.out | apply bA_ | apply bN_ | apply bD_) | exact HB.out)) hb); clear HB; have HB := n0_; clear n0_; (try clear hb); (try clear hb2); (try clear hk); (try clear hi)))
        go_ret
        exact ⟨by first | rfl | (simp [yad_, yac_] <;> rfl) | (simp [*, yad_, yac_] <;> rfl), by repeat (first | (with_reducible first | exact HB.out | apply bA_ | apply bN_ | apply bD_) | exact HB.out)⟩
       ·rw [if_neg c11] at H
        have c11b0 : decide (t391 < 0) = false := decide_eq_false c11
        clear c11
        have H' := Az_.mk H
        clear H
        have p388 : 0 ≤ (x7_1 : Int) := of_decide_eq_true (by first | (with_reducible assumption) | assumption)
        have q388 : x7_1 < (l0.length : Int) := of_decide_eq_true (by first | (with_reducible assumption) | assumption)
        obtain ⟨ad388, A388_2, c388_2, A388_4, c388_4, e388, hx388_0, hx388_1, hx388_2, hx388_3, hx388_4, hl388_2, hi388_2, hl388_4, hi388_4⟩ := at_T81 HR0.out x7_1 p388 q388
        cases e388
        replace hx388_0 := (HB.out.cell (World.block_lt_of_cell? w _ hx388_0)).trans hx388_0
        replace hx388_1 := (HB.out.cell (World.block_lt_of_cell? w _ hx388_1)).trans hx388_1
        replace hx388_2 := (HB.out.cell (World.block_lt_of_cell? w _ hx388_2)).trans hx388_2
        replace hx388_3 := (HB.out.cell (World.block_lt_of_cell? w _ hx388_3)).trans hx388_3
        replace hx388_4 := (HB.out.cell (World.block_lt_of_cell? w _ hx388_4)).trans hx388_4
        have HR388_2 := Az_.mk hi388_2
        have HC388_2 := Az_.mk hl388_2
        clear hi388_2 hl388_2
        have HR388_4 := Az_.mk hi388_4
        have HC388_4 := Az_.mk hl388_4
        clear hi388_4 hl388_4
        replace p388 := eq_true p388
        replace q388 := eq_true q388
        go_wp2_with (first | ((with_reducible refine yae_ (f := 50) rfl ?_); refine goesL_ (some 24) rfl rfl Try.func50 (by kernel_rfl) rfl #[.agg #[.int .i64 ((rd_T81 l0 x7_1).f1.f0), .slice A388_2 ((rd_T81 l0 x7_1).f1.f1).length c388_2], .int .i64 a2, .int .i64 8] rfl (by (try simp only [List.map_toArray, List.map_cons, List.map_nil]); first | done | rfl | (simp only [List.length_drop, List.length_take]; rfl)) ?_; (with_reducible refine (soriteslaw06_Small.calls k1 ((rd_T81 l0 x7_1).f1.f0) _ _ ((rd_T81 l0 x7_1).f1.f1) a2 8 t389 _ ?side1 ?side2 A7.out).mono ?_); (case side1 => repeat (first | exact (Kd.C_below HR388_2.out HB.out) | (with_reducible refine Kd.C_alloc ?_ _) | (with_reducible refine Kd.C_drewN ?_ _) | (with_reducible refine Kd.C_drew ?_))); (case side2 => exact HC388_2.out); rintro e w14 ⟨rfl, hb⟩; refine ⟨_, rfl, ?_⟩; have n0_ := Az_.mk (bT_ (by repeat (first | (with_reducible first | exact HB.out | apply bA_ | apply bN_ | apply bD_) | exact HB.out)) hb); clear HB; have HB := n0_; clear n0_; (try clear hb); (try clear hb2); (try clear hk); (try clear hi); have p390 : 0 ≤ (x7_1 : Int) := of_decide_eq_true (by first | (with_reducible assumption) | assumption); have q390 : x7_1 < (l0.length : Int) := of_decide_eq_true (by first | (with_reducible assumption) | assumption); obtain ⟨ad390, A390_2, c390_2, A390_4, c390_4, e390, hx390_0, hx390_1, hx390_2, hx390_3, hx390_4, hl390_2, hi390_2, hl390_4, hi390_4⟩ := at_T81 HR0.out x7_1 p390 q390; obtain rfl : ad388 = ad390 := (by injection e390); replace hx390_0 := (HB.out.cell (World.block_lt_of_cell? w _ hx390_0)).trans hx390_0; replace hx390_1 := (HB.out.cell (World.block_lt_of_cell? w _ hx390_1)).trans hx390_1; replace hx390_2 := (HB.out.cell (World.block_lt_of_cell? w _ hx390_2)).trans hx390_2; replace hx390_3 := (HB.out.cell (World.block_lt_of_cell? w _ hx390_3)).trans hx390_3; replace hx390_4 := (HB.out.cell (World.block_lt_of_cell? w _ hx390_4)).trans hx390_4; have HR390_2 := Az_.mk hi390_2; have HC390_2 := Az_.mk hl390_2; clear hi390_2 hl390_2; have HR390_4 := Az_.mk hi390_4; have HC390_4 := Az_.mk hl390_4; clear hi390_4 hl390_4; replace p390 := eq_true p390; replace q390 := eq_true q390) | (go_at_call 50; (with_reducible refine (soriteslaw06_Small.calls k1 ((rd_T81 l0 x7_1).f2.f0) _ _ ((rd_T81 l0 x7_1).f2.f1) a2 8 t391 _ ?side1 ?side2 A10.out).mono ?_); (case side1 => repeat (first | exact (Kd.C_below HR390_4.out HB.out) | (with_reducible refine Kd.C_alloc ?_ _) | (with_reducible refine Kd.C_drewN ?_ _) | (with_reducible refine Kd.C_drew ?_))); (case side2 => exact HC390_4.out); rintro e w15 ⟨rfl, hb⟩; have n0_ := Az_.mk (bT_ (by repeat (first | (with_reducible first | exact HB.out | apply bA_ | apply bN_ | apply bD_) | exact HB.out)) hb); clear HB; have HB := n0_; clear n0_; (try clear hb); (try clear hb2); (try clear hk); (try clear hi)))
        go_roundg k1
        case measure => have := HK1.out; omega
        case rel => exact ⟨(wrap64 (x7_1 + 1)), (by first | rfl | (simp; done) | (simp [*]; done)), H', ⟨by have := HK1.out; omega⟩, ⟨by repeat (first | (with_reducible first | exact HB.out | apply bA_ | apply bN_ | apply bD_) | exact HB.out)⟩⟩
     ·rw [if_neg c6] at H
      exact absurd H (by simp)
    ·rw [if_neg c5] at H
     have c5b0 : decide (x7_1 < (l0.length : Int)) = false := decide_eq_false c5
     clear c5
     obtain rfl := Option.some.inj H
     go_wp2
     go_ret
     exact ⟨by first | rfl | (simp [yad_, yac_] <;> rfl) | (simp [*, yad_, yac_] <;> rfl), by repeat (first | (with_reducible first | exact HB.out | apply bA_ | apply bN_ | apply bD_) | exact HB.out)⟩
end
section
attribute [local go_sem] max2_int min2_int max_two min_two yal_ yak_ max_four min_four
def soriteslaw11_Of.l0 : Nat → List (S81) → List (S78) → Int → Option ((List (S78)))
 | 0, _, _, _ => none
 | k + 1, x0, x3, x4 => if x4 < (x0.length : Int) then (if 0 ≤ x4 then ((soriteslaw06_Of.f k ((rd_T81 x0 x4).f1.f0) ((rd_T81 x0 x4).f1.f1)).bind fun bt394 => ((soriteslaw06_Of.f k ((rd_T81 x0 x4).f2.f0) ((rd_T81 x0 x4).f2.f1)).bind fun bt399 => (if x3.length < 1954687338268 then (soriteslaw11_Of.l0 k x0 (x3 ++ [(⟨(rd_T81 x0 x4).f0, (⟨bt394.1, bt394.2⟩ : S30), (⟨bt399.1, bt399.2⟩ : S30)⟩ : S78)]) (wrap64 (x4 + 1))) else (none)))) else (none)) else (some x3)
def soriteslaw11_Of.f (k : Nat) (l0 : List (S81)) : Option ((List (S78))) := soriteslaw11_Of.l0 k l0 ([] : List (S78)) 0
def soriteslaw11_Of.T5 : Bool × List (List Nat × List Nat) := (true, [([], []), ([], []), ([], []), ([1, 2], [1, 2]), ([3], [3]), ([4], [4]), ([], []), ([], []), ([6, 7], [6, 7]), ([8], [8]), ([9], [9]), ([10], [10]), ([], []), ([], []), ([12, 13], [12, 13]), ([14], [14]), ([15], [15]), ([16, 11], [16]), ([5, 11, 17], [5, 11, 17]), ([18], [18]), ([0, 19, 17], [0, 19]), ([20, 20, 0, 1, 2, 3, 4, 5, 6, 7, 8, 9, 10, 11, 12, 13, 14, 15, 16, 17, 18, 19, 20], [0, 20])])
def soriteslaw11_Of.B5 : List Nat := [0, 0, 0, 6, 14, 30, 0, 0, 192, 448, 960, 1984, 0, 0, 12288, 28672, 61440, 131008, 262142, 524286, 1048575, 2097151]
theorem soriteslaw11_Of.tab5 : rtab .any (opsOf Try.f56 5) = soriteslaw11_Of.T5 := by kernel_rfl
theorem soriteslaw11_Of.bits5 : waitsOk soriteslaw11_Of.T5.2 soriteslaw11_Of.B5 = true := by kernel_rfl
set_option maxHeartbeats 8000000 in
set_option maxRecDepth 100000 in
theorem soriteslaw11_Of.calls (k : Nat) (A0 : Option Addr) (c0 : Nat) (l0 : List (S81)) (r : List (S78)) (w : World) (hr0 : Kd.C k81 w A0 l0.length l0) (hc0 : l0.length ≤ c0) (h : soriteslaw11_Of.f k l0 = some r) :
  Calls Try.prog 56 #[.slice A0 l0.length c0] w fun e w' => ∃ v0_ : Value, e = .returned (v0_) ∧ Kd.R k78 78 w' w.heap.size (fun _ => True) v0_ r ∧ Below w.heap.size w w' := by
 have hu24 := Try.underlying24
 have hu78 := Try.underlying78
 have HR0 := Az_.mk hr0
 have HC0 := Az_.mk hc0
 clear hr0 hc0
 have HB := Az_.mk (Below.refl w.heap.size w)
 have H : (soriteslaw11_Of.l0 k l0 ([] : List (S78)) 0) = some r := h
 clear h
 have H' := Az_.mk H
 clear H
 go_enter Try.func56, Try.ntmps56
 go_wp2
 go_loopg [3, 4] k (fun kq v3 v4 w' => ∃ (x3_1 : List (S78)) (x4_1 : Int), v4 = .int .i64 x4_1 ∧ Az_ (soriteslaw11_Of.l0 kq l0 x3_1 x4_1 = some r) ∧ Az_ (kq ≤ k) ∧ Az_ (Kd.R k78 78 w' w.heap.size (fun _ => True) v3 x3_1) ∧ Az_ (Below w.heap.size w w'))
 case atStart => exact ⟨(([] : List (S78))), (0), (by first | rfl | (simp; done) | (simp [*]; done)), H', ⟨Nat.le_refl _⟩, ⟨by first | exact Kd.R_nil _ _ _ _ _ | exact Kd.N_nil _ _ _ _ _ | exact Kd.V_nil _ _ _ _ _ | exact Kd.Q_nil _ _ _ _ _ | exact Kd.S_nil _ _ _ _ _⟩, ⟨by repeat (first | (with_reducible first | exact HB.out | apply bA_ | apply bN_ | apply bD_) | exact HB.out)⟩⟩
 case round =>
  clear H'
  obtain ⟨x3_1, x4_1, rfl, HA, HK1, HO_3, HB⟩ := hrel
  cases gk with
  | zero => exact absurd HA.out (by simp [soriteslaw11_Of.l0])
  | succ k1 =>
   have H := HA.out
   clear HA
   simp only [soriteslaw11_Of.l0] at H
   by_cases c2 : x4_1 < (l0.length : Int)
   ·rw [if_pos c2] at H
    have c2b0 : decide (x4_1 < (l0.length : Int)) = true := decide_eq_true c2
    clear c2
    by_cases c3 : 0 ≤ x4_1
    ·rw [if_pos c3] at H
     have c3b0 : decide (0 ≤ x4_1) = true := decide_eq_true c3
     clear c3
     replace H := Option.bind_eq_some_iff.mp H
     obtain ⟨⟨t394, t395⟩, A40, H⟩ := H
     replace H : ((soriteslaw06_Of.f k1 ((rd_T81 l0 x4_1).f2.f0) ((rd_T81 l0 x4_1).f2.f1)).bind fun bt399 => (if x3_1.length < 1954687338268 then (soriteslaw11_Of.l0 k1 l0 (x3_1 ++ [(⟨(rd_T81 l0 x4_1).f0, (⟨t394, t395⟩ : S30), (⟨bt399.1, bt399.2⟩ : S30)⟩ : S78)]) (wrap64 (x4_1 + 1))) else (none))) = some r := H
     have A4 := Az_.mk A40
     clear A40
     replace H := Option.bind_eq_some_iff.mp H
     obtain ⟨⟨t399, t400⟩, A50, H⟩ := H
     replace H : (if x3_1.length < 1954687338268 then (soriteslaw11_Of.l0 k1 l0 (x3_1 ++ [(⟨(rd_T81 l0 x4_1).f0, (⟨t394, t395⟩ : S30), (⟨t399, t400⟩ : S30)⟩ : S78)]) (wrap64 (x4_1 + 1))) else (none)) = some r := H
     have A5 := Az_.mk A50
     clear A50
     by_cases c6 : x3_1.length < 1954687338268
     ·rw [if_pos c6] at H
      have LMc6 := Az_.mk c6
      clear c6
      obtain ⟨y403, hy403⟩ : ∃ y_ : List (S78), y_ = (x3_1 ++ [(⟨(rd_T81 l0 x4_1).f0, (⟨t394, t395⟩ : S30), (⟨t399, t400⟩ : S30)⟩ : S78)]) := ⟨_, rfl⟩
      replace H : (soriteslaw11_Of.l0 k1 l0 y403 (wrap64 (x4_1 + 1))) = some r := by first | (rw [hy403]; with_reducible exact H) | (have H2_ := (Option.bind_some _ _).symm.trans H; rw [hy403]; with_reducible exact H2_) | (have H2_ := (Option.bind_some _ _).symm.trans H; with_reducible exact H2_) | with_reducible exact H | (rw [hy403]; exact H) | exact H
      have Ny403 := Az_.mk hy403
      clear hy403
      have H' := Az_.mk H
      clear H
      try go_wp2
      have n0_ := Az_.mk (Kd.R_drew HO_3.out)
      have n1_ := Az_.mk (bD_ HB.out)
      clear HO_3
      clear HB
      have HO_3 := n0_
      have HB := n1_
      clear n0_ n1_
      have p392 : 0 ≤ (x4_1 : Int) := of_decide_eq_true (by first | (with_reducible assumption) | assumption)
      have q392 : x4_1 < (l0.length : Int) := of_decide_eq_true (by first | (with_reducible assumption) | assumption)
      obtain ⟨ad392, A392_2, c392_2, A392_4, c392_4, e392, hx392_0, hx392_1, hx392_2, hx392_3, hx392_4, hl392_2, hi392_2, hl392_4, hi392_4⟩ := at_T81 HR0.out x4_1 p392 q392
      have hw392_4 := hx392_4
      have hw392_3 := hx392_3
      have hw392_2 := hx392_2
      have hw392_1 := hx392_1
      have hw392_0 := hx392_0
      cases e392
      replace hx392_0 := (HB.out.cell (World.block_lt_of_cell? w _ hx392_0)).trans hx392_0
      replace hx392_1 := (HB.out.cell (World.block_lt_of_cell? w _ hx392_1)).trans hx392_1
      replace hx392_2 := (HB.out.cell (World.block_lt_of_cell? w _ hx392_2)).trans hx392_2
      replace hx392_3 := (HB.out.cell (World.block_lt_of_cell? w _ hx392_3)).trans hx392_3
      replace hx392_4 := (HB.out.cell (World.block_lt_of_cell? w _ hx392_4)).trans hx392_4
      have HR392_2 := Az_.mk hi392_2
      have HC392_2 := Az_.mk hl392_2
      clear hi392_2 hl392_2
      have HR392_4 := Az_.mk hi392_4
      have HC392_4 := Az_.mk hl392_4
      clear hi392_4 hl392_4
      replace p392 := eq_true p392
      replace q392 := eq_true q392
      have p393 : 0 ≤ (x4_1 : Int) := of_decide_eq_true (by first | (with_reducible assumption) | assumption)
      have q393 : x4_1 < (l0.length : Int) := of_decide_eq_true (by first | (with_reducible assumption) | assumption)
      obtain ⟨ad393, A393_2, c393_2, A393_4, c393_4, e393, hx393_0, hx393_1, hx393_2, hx393_3, hx393_4, hl393_2, hi393_2, hl393_4, hi393_4⟩ := at_T81 HR0.out x4_1 p393 q393
      have hw393_4 := hx393_4
      have hw393_3 := hx393_3
      have hw393_2 := hx393_2
      have hw393_1 := hx393_1
      have hw393_0 := hx393_0
      obtain rfl : ad392 = ad393 := (by injection e393)
      replace hx393_0 := (HB.out.cell (World.block_lt_of_cell? w _ hx393_0)).trans hx393_0
      replace hx393_1 := (HB.out.cell (World.block_lt_of_cell? w _ hx393_1)).trans hx393_1
      replace hx393_2 := (HB.out.cell (World.block_lt_of_cell? w _ hx393_2)).trans hx393_2
      replace hx393_3 := (HB.out.cell (World.block_lt_of_cell? w _ hx393_3)).trans hx393_3
      replace hx393_4 := (HB.out.cell (World.block_lt_of_cell? w _ hx393_4)).trans hx393_4
      have HR393_2 := Az_.mk hi393_2
      have HC393_2 := Az_.mk hl393_2
      clear hi393_2 hl393_2
      have HR393_4 := Az_.mk hi393_4
      have HC393_4 := Az_.mk hl393_4
      clear hi393_4 hl393_4
      replace p393 := eq_true p393
      replace q393 := eq_true q393
      have ea_ := Option.some.inj (hx392_2.symm.trans hx393_2)
      injection ea_ with ea_ en_ ec_
      subst ea_
      subst ec_
      clear en_
      have ea_ := Option.some.inj (hx392_4.symm.trans hx393_4)
      injection ea_ with ea_ en_ ec_
      subst ea_
      subst ec_
      clear en_
      have p398 : 0 ≤ (x4_1 : Int) := of_decide_eq_true (by first | (with_reducible assumption) | assumption)
      have q398 : x4_1 < (l0.length : Int) := of_decide_eq_true (by first | (with_reducible assumption) | assumption)
      obtain ⟨ad398, A398_2, c398_2, A398_4, c398_4, e398, hx398_0, hx398_1, hx398_2, hx398_3, hx398_4, hl398_2, hi398_2, hl398_4, hi398_4⟩ := at_T81 HR0.out x4_1 p398 q398
      have hw398_4 := hx398_4
      have hw398_3 := hx398_3
      have hw398_2 := hx398_2
      have hw398_1 := hx398_1
      have hw398_0 := hx398_0
      obtain rfl : ad392 = ad398 := (by injection e398)
      replace hx398_0 := (HB.out.cell (World.block_lt_of_cell? w _ hx398_0)).trans hx398_0
      replace hx398_1 := (HB.out.cell (World.block_lt_of_cell? w _ hx398_1)).trans hx398_1
      replace hx398_2 := (HB.out.cell (World.block_lt_of_cell? w _ hx398_2)).trans hx398_2
      replace hx398_3 := (HB.out.cell (World.block_lt_of_cell? w _ hx398_3)).trans hx398_3
      replace hx398_4 := (HB.out.cell (World.block_lt_of_cell? w _ hx398_4)).trans hx398_4
      have HR398_2 := Az_.mk hi398_2
      have HC398_2 := Az_.mk hl398_2
      clear hi398_2 hl398_2
      have HR398_4 := Az_.mk hi398_4
      have HC398_4 := Az_.mk hl398_4
      clear hi398_4 hl398_4
      replace p398 := eq_true p398
      replace q398 := eq_true q398
      have ea_ := Option.some.inj (hx392_2.symm.trans hx398_2)
      injection ea_ with ea_ en_ ec_
      subst ea_
      subst ec_
      clear en_
      have ea_ := Option.some.inj (hx392_4.symm.trans hx398_4)
      injection ea_ with ea_ en_ ec_
      subst ea_
      subst ec_
      clear en_
      refine start_ (n := 22) (S := fun w' => w'.cell? (ad392.add ((x4_1).toNat * 5)) = some (.bool ((rd_T81 l0 x4_1).f0)) ∧ w'.cell? ⟨(ad392.add ((x4_1).toNat * 5)).block, (ad392.add ((x4_1).toNat * 5)).off + 1, none⟩ = some (.int .i64 ((rd_T81 l0 x4_1).f1.f0)) ∧ w'.cell? ⟨(ad392.add ((x4_1).toNat * 5)).block, (ad392.add ((x4_1).toNat * 5)).off + 2, none⟩ = some (.slice A392_2 ((rd_T81 l0 x4_1).f1.f1).length c392_2) ∧ w'.cell? ⟨(ad392.add ((x4_1).toNat * 5)).block, (ad392.add ((x4_1).toNat * 5)).off + 3, none⟩ = some (.int .i64 ((rd_T81 l0 x4_1).f2.f0)) ∧ w'.cell? ⟨(ad392.add ((x4_1).toNat * 5)).block, (ad392.add ((x4_1).toNat * 5)).off + 4, none⟩ = some (.slice A392_4 ((rd_T81 l0 x4_1).f2.f1).length c392_4) ∧ w'.cell? (ad392.add ((x4_1).toNat * 5)) = some (.bool ((rd_T81 l0 x4_1).f0)) ∧ w'.cell? ⟨(ad392.add ((x4_1).toNat * 5)).block, (ad392.add ((x4_1).toNat * 5)).off + 1, none⟩ = some (.int .i64 ((rd_T81 l0 x4_1).f1.f0)) ∧ w'.cell? ⟨(ad392.add ((x4_1).toNat * 5)).block, (ad392.add ((x4_1).toNat * 5)).off + 2, none⟩ = some (.slice A392_2 ((rd_T81 l0 x4_1).f1.f1).length c392_2) ∧ w'.cell? ⟨(ad392.add ((x4_1).toNat * 5)).block, (ad392.add ((x4_1).toNat * 5)).off + 3, none⟩ = some (.int .i64 ((rd_T81 l0 x4_1).f2.f0)) ∧ w'.cell? ⟨(ad392.add ((x4_1).toNat * 5)).block, (ad392.add ((x4_1).toNat * 5)).off + 4, none⟩ = some (.slice A392_4 ((rd_T81 l0 x4_1).f2.f1).length c392_4) ∧ w'.cell? (ad392.add ((x4_1).toNat * 5)) = some (.bool ((rd_T81 l0 x4_1).f0)) ∧ w'.cell? ⟨(ad392.add ((x4_1).toNat * 5)).block, (ad392.add ((x4_1).toNat * 5)).off + 1, none⟩ = some (.int .i64 ((rd_T81 l0 x4_1).f1.f0)) ∧ w'.cell? ⟨(ad392.add ((x4_1).toNat * 5)).block, (ad392.add ((x4_1).toNat * 5)).off + 2, none⟩ = some (.slice A392_2 ((rd_T81 l0 x4_1).f1.f1).length c392_2) ∧ w'.cell? ⟨(ad392.add ((x4_1).toNat * 5)).block, (ad392.add ((x4_1).toNat * 5)).off + 3, none⟩ = some (.int .i64 ((rd_T81 l0 x4_1).f2.f0)) ∧ w'.cell? ⟨(ad392.add ((x4_1).toNat * 5)).block, (ad392.add ((x4_1).toNat * 5)).off + 4, none⟩ = some (.slice A392_4 ((rd_T81 l0 x4_1).f2.f1).length c392_4)) (ds := []) #[false, false, false, false, false, false, false, false, false, false, false, false, false, false, false, false, false, false, false, false, false, false] (by kernel_rfl) rfl rfl ⟨((HB.out.cell (World.block_lt_of_cell? w _ hw392_0)).trans hw392_0), ((HB.out.cell (World.block_lt_of_cell? w _ hw392_1)).trans hw392_1), ((HB.out.cell (World.block_lt_of_cell? w _ hw392_2)).trans hw392_2), ((HB.out.cell (World.block_lt_of_cell? w _ hw392_3)).trans hw392_3), ((HB.out.cell (World.block_lt_of_cell? w _ hw392_4)).trans hw392_4), ((HB.out.cell (World.block_lt_of_cell? w _ hw393_0)).trans hw393_0), ((HB.out.cell (World.block_lt_of_cell? w _ hw393_1)).trans hw393_1), ((HB.out.cell (World.block_lt_of_cell? w _ hw393_2)).trans hw393_2), ((HB.out.cell (World.block_lt_of_cell? w _ hw393_3)).trans hw393_3), ((HB.out.cell (World.block_lt_of_cell? w _ hw393_4)).trans hw393_4), ((HB.out.cell (World.block_lt_of_cell? w _ hw398_0)).trans hw398_0), ((HB.out.cell (World.block_lt_of_cell? w _ hw398_1)).trans hw398_1), ((HB.out.cell (World.block_lt_of_cell? w _ hw398_2)).trans hw398_2), ((HB.out.cell (World.block_lt_of_cell? w _ hw398_3)).trans hw398_3), ((HB.out.cell (World.block_lt_of_cell? w _ hw398_4)).trans hw398_4)⟩ (fun hHeld => ?_); refine with_tabW soriteslaw11_Of.tab5 soriteslaw11_Of.bits5 (fun HT_ HW_ => ?_)
      generalize wr.drew = w7 at HO_3 HB HR392_2 HR392_4 HR393_2 HR393_4 HR398_2 HR398_4 hx392_0 hx392_1 hx392_2 hx392_3 hx392_4 hx393_0 hx393_1 hx393_2 hx393_3 hx393_4 hx398_0 hx398_1 hx398_2 hx398_3 hx398_4 hHeld ⊢
      refine pure_ (i := 0) (N := some 11) (v := ?_) (a' := ?_) #[true, false, false, false, false, false, false, false, false, false, false, false, false, false, false, false, false, false, false, false, false, false] rfl rfl (any_of HT_.out (by kernel_rfl)) (fun _ _ _ h => h) (Or.inl ⟨by rfl, ?_⟩) ?_ ?_
      rotate_left
      ·intro w'
       go_simp
       with_reducible rfl
      rotate_left
      ·simp only [Act.put, sA_, sZ_, sS_, i64_w, i32_w]
       rfl
      refine pure_ (i := 1) (N := some 12) (v := ?_) (a' := ?_) #[true, true, false, false, false, false, false, false, false, false, false, false, false, false, false, false, false, false, false, false, false, false] rfl rfl (any_of HT_.out (by kernel_rfl)) (fun _ _ _ h => h) (Or.inl ⟨by rfl, ?_⟩) ?_ ?_
      rotate_left
      ·intro w'
       go_simp
       with_reducible rfl
      rotate_left
      ·simp only [Act.put, sA_, sZ_, sS_, i64_w, i32_w]
       rfl
      refine pure_ (i := 2) (N := some 13) (v := ?_) (a' := ?_) #[true, true, true, false, false, false, false, false, false, false, false, false, false, false, false, false, false, false, false, false, false, false] rfl rfl (any_of HT_.out (by kernel_rfl)) (fun _ _ _ h => h) (Or.inl ⟨by rfl, ?_⟩) ?_ ?_
      rotate_left
      ·intro w'
       go_simp
       with_reducible rfl
      rotate_left
      ·simp only [Act.put, sA_, sZ_, sS_, i64_w, i32_w]
       rfl
      refine pure_ (i := 3) (N := some 14) (v := ?_) (a' := ?_) #[true, true, true, true, false, false, false, false, false, false, false, false, false, false, false, false, false, false, false, false, false, false] rfl rfl (any_of HT_.out (by kernel_rfl)) (fun _ _ _ h => h) (Or.inl ⟨by rfl, ?_⟩) ?_ ?_
      rotate_left
      ·intro w'
       go_simp
       with_reducible rfl
      rotate_left
      ·simp only [Act.put, sA_, sZ_, sS_, i64_w, i32_w]
       rfl
      refine pure_ (i := 4) (N := some 15) (v := ?_) (a' := ?_) #[true, true, true, true, true, false, false, false, false, false, false, false, false, false, false, false, false, false, false, false, false, false] rfl rfl (any_of HT_.out (by kernel_rfl)) (fun _ _ _ h => h) (Or.inl ⟨by rfl, ?_⟩) ?_ ?_
      rotate_left
      ·intro w'
       go_simp
       with_reducible rfl
      rotate_left
      ·simp only [Act.put, sA_, sZ_, sS_, i64_w, i32_w]
       rfl
      refine pure_ (i := 6) (N := some 17) (v := ?_) (a' := ?_) #[true, true, true, true, true, false, true, false, false, false, false, false, false, false, false, false, false, false, false, false, false, false] rfl rfl (any_of HT_.out (by kernel_rfl)) (fun _ _ _ h => h) (Or.inl ⟨by rfl, ?_⟩) ?_ ?_
      rotate_left
      ·intro w'
       go_simp
       with_reducible rfl
      rotate_left
      ·simp only [Act.put, sA_, sZ_, sS_, i64_w, i32_w]
       rfl
      refine pure_ (i := 7) (N := some 18) (v := ?_) (a' := ?_) #[true, true, true, true, true, false, true, true, false, false, false, false, false, false, false, false, false, false, false, false, false, false] rfl rfl (any_of HT_.out (by kernel_rfl)) (fun _ _ _ h => h) (Or.inl ⟨by rfl, ?_⟩) ?_ ?_
      rotate_left
      ·intro w'
       go_simp
       with_reducible rfl
      rotate_left
      ·simp only [Act.put, sA_, sZ_, sS_, i64_w, i32_w]
       rfl
      refine pure_ (i := 8) (N := some 19) (v := ?_) (a' := ?_) #[true, true, true, true, true, false, true, true, true, false, false, false, false, false, false, false, false, false, false, false, false, false] rfl rfl (any_of HT_.out (by kernel_rfl)) (fun _ _ _ h => h) (Or.inl ⟨by rfl, ?_⟩) ?_ ?_
      rotate_left
      ·intro w'
       go_simp
       with_reducible rfl
      rotate_left
      ·simp only [Act.put, sA_, sZ_, sS_, i64_w, i32_w]
       rfl
      refine pure_ (i := 9) (N := some 20) (v := ?_) (a' := ?_) #[true, true, true, true, true, false, true, true, true, true, false, false, false, false, false, false, false, false, false, false, false, false] rfl rfl (any_of HT_.out (by kernel_rfl)) (fun _ _ _ h => h) (Or.inl ⟨by rfl, ?_⟩) ?_ ?_
      rotate_left
      ·intro w'
       go_simp
       with_reducible rfl
      rotate_left
      ·simp only [Act.put, sA_, sZ_, sS_, i64_w, i32_w]
       rfl
      refine pure_ (i := 12) (N := some 23) (v := ?_) (a' := ?_) #[true, true, true, true, true, false, true, true, true, true, false, false, true, false, false, false, false, false, false, false, false, false] rfl rfl (any_of HT_.out (by kernel_rfl)) (fun _ _ _ h => h) (Or.inl ⟨by rfl, ?_⟩) ?_ ?_
      rotate_left
      ·intro w'
       go_simp
       with_reducible rfl
      rotate_left
      ·simp only [Act.put, sA_, sZ_, sS_, i64_w, i32_w]
       rfl
      refine pure_ (i := 13) (N := some 24) (v := ?_) (a' := ?_) #[true, true, true, true, true, false, true, true, true, true, false, false, true, true, false, false, false, false, false, false, false, false] rfl rfl (any_of HT_.out (by kernel_rfl)) (fun _ _ _ h => h) (Or.inl ⟨by rfl, ?_⟩) ?_ ?_
      rotate_left
      ·intro w'
       go_simp
       with_reducible rfl
      rotate_left
      ·simp only [Act.put, sA_, sZ_, sS_, i64_w, i32_w]
       rfl
      refine pure_ (i := 14) (N := some 25) (v := ?_) (a' := ?_) #[true, true, true, true, true, false, true, true, true, true, false, false, true, true, true, false, false, false, false, false, false, false] rfl rfl (any_of HT_.out (by kernel_rfl)) (fun _ _ _ h => h) (Or.inl ⟨by rfl, ?_⟩) ?_ ?_
      rotate_left
      ·intro w'
       go_simp
       with_reducible rfl
      rotate_left
      ·simp only [Act.put, sA_, sZ_, sS_, i64_w, i32_w]
       rfl
      refine pure_ (i := 15) (N := some 26) (v := ?_) (a' := ?_) #[true, true, true, true, true, false, true, true, true, true, false, false, true, true, true, true, false, false, false, false, false, false] rfl rfl (any_of HT_.out (by kernel_rfl)) (fun _ _ _ h => h) (Or.inl ⟨by rfl, ?_⟩) ?_ ?_
      rotate_left
      ·intro w'
       go_simp
       with_reducible rfl
      rotate_left
      ·simp only [Act.put, sA_, sZ_, sS_, i64_w, i32_w]
       rfl
      refine take_ (i := 5) (N := some 16) (v := ?_) (a' := ?_) #[true, true, true, true, true, true, true, true, true, true, false, false, true, true, true, true, false, false, false, false, false, false] rfl rfl (yaf_ HT_.out HW_.out (by kernel_rfl)) (fun _ _ _ h => h) (Or.inl ⟨by rfl, ?_⟩) hHeld ?_ ?_
      rotate_left
      ·rintro w' ⟨s0, s1, s2, s3, s4, s5, s6, s7, s8, s9, s10, s11, s12, s13, s14⟩
       go_simp
       with_reducible rfl
      rotate_left
      ·simp only [Act.put, sA_, sZ_, sS_, i64_w, i32_w]
       rfl
      refine take_ (i := 10) (N := some 21) (v := ?_) (a' := ?_) #[true, true, true, true, true, true, true, true, true, true, true, false, true, true, true, true, false, false, false, false, false, false] rfl rfl (yaf_ HT_.out HW_.out (by kernel_rfl)) (fun _ _ _ h => h) (Or.inl ⟨by rfl, ?_⟩) hHeld ?_ ?_
      rotate_left
      ·rintro w' ⟨s0, s1, s2, s3, s4, s5, s6, s7, s8, s9, s10, s11, s12, s13, s14⟩
       go_simp
       with_reducible rfl
      rotate_left
      ·simp only [Act.put, sA_, sZ_, sS_, i64_w, i32_w]
       rfl
      refine take_ (i := 16) (N := some 27) (v := ?_) (a' := ?_) #[true, true, true, true, true, true, true, true, true, true, true, false, true, true, true, true, true, false, false, false, false, false] rfl rfl (yaf_ HT_.out HW_.out (by kernel_rfl)) (fun _ _ _ h => h) (Or.inl ⟨by rfl, ?_⟩) hHeld ?_ ?_
      rotate_left
      ·rintro w' ⟨s0, s1, s2, s3, s4, s5, s6, s7, s8, s9, s10, s11, s12, s13, s14⟩
       go_simp
       with_reducible rfl
      rotate_left
      ·simp only [Act.put, sA_, sZ_, sS_, i64_w, i32_w]
       rfl
      refine one_ (i := 11) (N := some 22) #[true, true, true, true, true, true, true, true, true, true, true, true, true, true, true, true, true, false, false, false, false, false] rfl rfl (one_of HT_.out (by kernel_rfl)) (by decide) (fun K hK => ?_)
      refine goes_ Try.func22 (by kernel_rfl) rfl #[.agg #[.int .i64 ((rd_T81 l0 x4_1).f1.f0), .slice A392_2 ((rd_T81 l0 x4_1).f1.f1).length c392_2]] (by rfl) rfl rfl (by (try simp only [List.map_toArray, List.map_cons, List.map_nil]); first | done | rfl | (simp only [List.length_drop, List.length_take]; rfl)) ?_
      with_reducible refine (soriteslaw06_Of.calls k1 ((rd_T81 l0 x4_1).f1.f0) _ _ ((rd_T81 l0 x4_1).f1.f1) t394 t395 _ ?side1 ?side2 A4.out).mono ?_
      (case side1 => repeat (first | exact (Kd.C_below HR393_2.out HB.out) | (with_reducible refine Kd.C_alloc ?_ _) | (with_reducible refine Kd.C_drewN ?_ _) | (with_reducible refine Kd.C_drew ?_)))
      (case side2 => exact HC393_2.out)
      rintro e w8 ⟨v396, rfl, ho0, hb⟩
      refine ⟨_, rfl, ?_⟩
      have n0_ := Az_.mk (Kd.R_elder' (by (with_reducible repeat (first | apply Kd.R_alloc | apply Kd.R_drewN | apply Kd.R_drew)); exact HO_3.out) (Kd.R_base ho0) hb)
      have n1_ := Az_.mk (Kd.R_lower ho0 (bZ_ (by repeat (first | (with_reducible first | exact HB.out | apply bA_ | apply bN_ | apply bD_) | exact HB.out))))
      have n2_ := Az_.mk (bT_ (by repeat (first | (with_reducible first | exact HB.out | apply bA_ | apply bN_ | apply bD_) | exact HB.out)) hb)
      clear HO_3
      clear HB
      have HO_3 := n0_
      have HO397 := n1_
      have HB := n2_
      clear n0_ n1_ n2_
      (try clear hb)
      (try clear hb2)
      (try clear hk)
      (try clear hi)
      (try clear ho0)
      refine hK.out _ _ ⟨((HB.out.cell (World.block_lt_of_cell? w _ hw392_0)).trans hw392_0), ((HB.out.cell (World.block_lt_of_cell? w _ hw392_1)).trans hw392_1), ((HB.out.cell (World.block_lt_of_cell? w _ hw392_2)).trans hw392_2), ((HB.out.cell (World.block_lt_of_cell? w _ hw392_3)).trans hw392_3), ((HB.out.cell (World.block_lt_of_cell? w _ hw392_4)).trans hw392_4), ((HB.out.cell (World.block_lt_of_cell? w _ hw393_0)).trans hw393_0), ((HB.out.cell (World.block_lt_of_cell? w _ hw393_1)).trans hw393_1), ((HB.out.cell (World.block_lt_of_cell? w _ hw393_2)).trans hw393_2), ((HB.out.cell (World.block_lt_of_cell? w _ hw393_3)).trans hw393_3), ((HB.out.cell (World.block_lt_of_cell? w _ hw393_4)).trans hw393_4), ((HB.out.cell (World.block_lt_of_cell? w _ hw398_0)).trans hw398_0), ((HB.out.cell (World.block_lt_of_cell? w _ hw398_1)).trans hw398_1), ((HB.out.cell (World.block_lt_of_cell? w _ hw398_2)).trans hw398_2), ((HB.out.cell (World.block_lt_of_cell? w _ hw398_3)).trans hw398_3), ((HB.out.cell (World.block_lt_of_cell? w _ hw398_4)).trans hw398_4)⟩ (fun hHeld => ?_)
      clear hK K
      refine norm_ (a' := ?_) ?_ ?_
      rotate_left
      ·show Act.put _ (some 22) _ = _
       simp only [Act.put, sA_, sZ_, sS_, i64_w, i32_w]
       rfl
      refine one_ (i := 17) (N := some 28) #[true, true, true, true, true, true, true, true, true, true, true, true, true, true, true, true, true, true, false, false, false, false] rfl rfl (one_of HT_.out (by kernel_rfl)) (by decide) (fun K hK => ?_)
      refine goes_ Try.func22 (by kernel_rfl) rfl #[.agg #[.int .i64 ((rd_T81 l0 x4_1).f2.f0), .slice A392_4 ((rd_T81 l0 x4_1).f2.f1).length c392_4]] (by rfl) rfl rfl (by (try simp only [List.map_toArray, List.map_cons, List.map_nil]); first | done | rfl | (simp only [List.length_drop, List.length_take]; rfl)) ?_
      with_reducible refine (soriteslaw06_Of.calls k1 ((rd_T81 l0 x4_1).f2.f0) _ _ ((rd_T81 l0 x4_1).f2.f1) t399 t400 _ ?side1 ?side2 A5.out).mono ?_
      (case side1 => repeat (first | exact (Kd.C_below HR398_4.out HB.out) | (with_reducible refine Kd.C_alloc ?_ _) | (with_reducible refine Kd.C_drewN ?_ _) | (with_reducible refine Kd.C_drew ?_)))
      (case side2 => exact HC398_4.out)
      rintro e w9 ⟨v401, rfl, ho0, hb⟩
      refine ⟨_, rfl, ?_⟩
      have n0_ := Az_.mk (Kd.R_elder' (by (with_reducible repeat (first | apply Kd.R_alloc | apply Kd.R_drewN | apply Kd.R_drew)); exact HO_3.out) (Kd.R_base ho0) hb)
      have n1_ := Az_.mk (Kd.R_elder' (by (with_reducible repeat (first | apply Kd.R_alloc | apply Kd.R_drewN | apply Kd.R_drew)); exact HO397.out) (Kd.R_base ho0) hb)
      have n2_ := Az_.mk (Kd.R_lower (Kd.R_new' ho0 (Kd.R_lt (by (with_reducible repeat (first | apply Kd.R_alloc | apply Kd.R_drewN | apply Kd.R_drew)); exact HO397.out))) (bZ_ (by repeat (first | (with_reducible first | exact HB.out | apply bA_ | apply bN_ | apply bD_) | exact HB.out))))
      have n3_ := Az_.mk (bT_ (by repeat (first | (with_reducible first | exact HB.out | apply bA_ | apply bN_ | apply bD_) | exact HB.out)) hb)
      clear HO_3
      clear HO397
      clear HB
      have HO_3 := n0_
      have HO397 := n1_
      have HO402 := n2_
      have HB := n3_
      clear n0_ n1_ n2_ n3_
      (try clear hb)
      (try clear hb2)
      (try clear hk)
      (try clear hi)
      (try clear ho0)
      obtain ⟨Ao10, co10, eo10⟩ := Kd.R_slice HO402.out
      (first | subst eo10 | (injection eo10 with f1_ f2_ f3_; have f4_ := f1_.symm; have f5_ := f3_.symm; clear f1_ f2_ f3_; subst f4_; subst f5_))
      obtain ⟨Ao11, co11, eo11⟩ := Kd.R_slice HO397.out
      (first | subst eo11 | (injection eo11 with f1_ f2_ f3_; have f4_ := f1_.symm; have f5_ := f3_.symm; clear f1_ f2_ f3_; subst f4_; subst f5_))
      refine hK.out _ _ ⟨((HB.out.cell (World.block_lt_of_cell? w _ hw392_0)).trans hw392_0), ((HB.out.cell (World.block_lt_of_cell? w _ hw392_1)).trans hw392_1), ((HB.out.cell (World.block_lt_of_cell? w _ hw392_2)).trans hw392_2), ((HB.out.cell (World.block_lt_of_cell? w _ hw392_3)).trans hw392_3), ((HB.out.cell (World.block_lt_of_cell? w _ hw392_4)).trans hw392_4), ((HB.out.cell (World.block_lt_of_cell? w _ hw393_0)).trans hw393_0), ((HB.out.cell (World.block_lt_of_cell? w _ hw393_1)).trans hw393_1), ((HB.out.cell (World.block_lt_of_cell? w _ hw393_2)).trans hw393_2), ((HB.out.cell (World.block_lt_of_cell? w _ hw393_3)).trans hw393_3), ((HB.out.cell (World.block_lt_of_cell? w _ hw393_4)).trans hw393_4), ((HB.out.cell (World.block_lt_of_cell? w _ hw398_0)).trans hw398_0), ((HB.out.cell (World.block_lt_of_cell? w _ hw398_1)).trans hw398_1), ((HB.out.cell (World.block_lt_of_cell? w _ hw398_2)).trans hw398_2), ((HB.out.cell (World.block_lt_of_cell? w _ hw398_3)).trans hw398_3), ((HB.out.cell (World.block_lt_of_cell? w _ hw398_4)).trans hw398_4)⟩ (fun hHeld => ?_)
      clear hK K
      refine norm_ (a' := ?_) ?_ ?_
      rotate_left
      ·show Act.put _ (some 28) _ = _
       simp only [Act.put, sA_, sZ_, sS_, i64_w, i32_w]
       rfl
      refine pure_ (i := 18) (N := some 29) (v := ?_) (a' := ?_) #[true, true, true, true, true, true, true, true, true, true, true, true, true, true, true, true, true, true, true, false, false, false] rfl rfl (any_of HT_.out (by kernel_rfl)) (fun _ _ _ h => h) (Or.inl ⟨by rfl, ?_⟩) ?_ ?_
      rotate_left
      ·intro w'
       go_simp
       with_reducible rfl
      rotate_left
      ·simp only [Act.put, sA_, sZ_, sS_, i64_w, i32_w]
       rfl
      refine one_ (i := 19) (N := some 30) #[true, true, true, true, true, true, true, true, true, true, true, true, true, true, true, true, true, true, true, true, false, false] rfl rfl (one_of HT_.out (by kernel_rfl)) (by decide) (fun K hK => ?_)
      refine value_ (w1 := ?_) (v := ?_) (by rfl) rfl ?_ ?_
      rotate_left 2
      ·go_simp
       constructor
       ·rfl
       ·rfl
      refine hK.out _ _ ⟨(World.cell?_alloc_lt _ _ _ (World.block_lt_of_cell? _ _ (((HB.out.cell (World.block_lt_of_cell? w _ hw392_0)).trans hw392_0)))).trans (((HB.out.cell (World.block_lt_of_cell? w _ hw392_0)).trans hw392_0)), (World.cell?_alloc_lt _ _ _ (World.block_lt_of_cell? _ _ (((HB.out.cell (World.block_lt_of_cell? w _ hw392_1)).trans hw392_1)))).trans (((HB.out.cell (World.block_lt_of_cell? w _ hw392_1)).trans hw392_1)), (World.cell?_alloc_lt _ _ _ (World.block_lt_of_cell? _ _ (((HB.out.cell (World.block_lt_of_cell? w _ hw392_2)).trans hw392_2)))).trans (((HB.out.cell (World.block_lt_of_cell? w _ hw392_2)).trans hw392_2)), (World.cell?_alloc_lt _ _ _ (World.block_lt_of_cell? _ _ (((HB.out.cell (World.block_lt_of_cell? w _ hw392_3)).trans hw392_3)))).trans (((HB.out.cell (World.block_lt_of_cell? w _ hw392_3)).trans hw392_3)), (World.cell?_alloc_lt _ _ _ (World.block_lt_of_cell? _ _ (((HB.out.cell (World.block_lt_of_cell? w _ hw392_4)).trans hw392_4)))).trans (((HB.out.cell (World.block_lt_of_cell? w _ hw392_4)).trans hw392_4)), (World.cell?_alloc_lt _ _ _ (World.block_lt_of_cell? _ _ (((HB.out.cell (World.block_lt_of_cell? w _ hw393_0)).trans hw393_0)))).trans (((HB.out.cell (World.block_lt_of_cell? w _ hw393_0)).trans hw393_0)), (World.cell?_alloc_lt _ _ _ (World.block_lt_of_cell? _ _ (((HB.out.cell (World.block_lt_of_cell? w _ hw393_1)).trans hw393_1)))).trans (((HB.out.cell (World.block_lt_of_cell? w _ hw393_1)).trans hw393_1)), (World.cell?_alloc_lt _ _ _ (World.block_lt_of_cell? _ _ (((HB.out.cell (World.block_lt_of_cell? w _ hw393_2)).trans hw393_2)))).trans (((HB.out.cell (World.block_lt_of_cell? w _ hw393_2)).trans hw393_2)), (World.cell?_alloc_lt _ _ _ (World.block_lt_of_cell? _ _ (((HB.out.cell (World.block_lt_of_cell? w _ hw393_3)).trans hw393_3)))).trans (((HB.out.cell (World.block_lt_of_cell? w _ hw393_3)).trans hw393_3)), (World.cell?_alloc_lt _ _ _ (World.block_lt_of_cell? _ _ (((HB.out.cell (World.block_lt_of_cell? w _ hw393_4)).trans hw393_4)))).trans (((HB.out.cell (World.block_lt_of_cell? w _ hw393_4)).trans hw393_4)), (World.cell?_alloc_lt _ _ _ (World.block_lt_of_cell? _ _ (((HB.out.cell (World.block_lt_of_cell? w _ hw398_0)).trans hw398_0)))).trans (((HB.out.cell (World.block_lt_of_cell? w _ hw398_0)).trans hw398_0)), (World.cell?_alloc_lt _ _ _ (World.block_lt_of_cell? _ _ (((HB.out.cell (World.block_lt_of_cell? w _ hw398_1)).trans hw398_1)))).trans (((HB.out.cell (World.block_lt_of_cell? w _ hw398_1)).trans hw398_1)), (World.cell?_alloc_lt _ _ _ (World.block_lt_of_cell? _ _ (((HB.out.cell (World.block_lt_of_cell? w _ hw398_2)).trans hw398_2)))).trans (((HB.out.cell (World.block_lt_of_cell? w _ hw398_2)).trans hw398_2)), (World.cell?_alloc_lt _ _ _ (World.block_lt_of_cell? _ _ (((HB.out.cell (World.block_lt_of_cell? w _ hw398_3)).trans hw398_3)))).trans (((HB.out.cell (World.block_lt_of_cell? w _ hw398_3)).trans hw398_3)), (World.cell?_alloc_lt _ _ _ (World.block_lt_of_cell? _ _ (((HB.out.cell (World.block_lt_of_cell? w _ hw398_4)).trans hw398_4)))).trans (((HB.out.cell (World.block_lt_of_cell? w _ hw398_4)).trans hw398_4))⟩ (fun hHeld => ?_)
      clear hK K
      refine norm_ (a' := ?_) ?_ ?_
      rotate_left
      ·show Act.put _ (some 30) _ = _
       simp only [Act.put, sA_, sZ_, sS_, i64_w, i32_w]
       rfl
      refine one_ (i := 20) (N := some 31) #[true, true, true, true, true, true, true, true, true, true, true, true, true, true, true, true, true, true, true, true, true, false] rfl rfl (one_of HT_.out (by kernel_rfl)) (by decide) (fun K hK => ?_)
      refine Kd.R_append_step k78 (w0 := w) w.heap.size (by rfl) (.tmp 11) (.tmp 30) 68 78 (.agg #[(.bool false), (.int .i64 0), (.slice none 0 0), (.int .i64 0), (.slice none 0 0)]) 72 rfl Try.underlying68 info78 rfl (by decide) (by omega) u3 x3_1 (⟨(rd_T81 l0 x4_1).f0, (⟨t394, t395⟩ : S30), (⟨t399, t400⟩ : S30)⟩ : S78) [.bool ((rd_T81 l0 x4_1).f0), .int .i64 t394, .slice Ao11 t395.length co11, .int .i64 t399, .slice Ao10 t400.length co10] (fun _ => True) (fun k_ => ((fun _ => True)) k_ ∧ some k_ ≠ (u3 : Value).ownBlock) rfl rfl ?aP (fun _ hk => hk) ?aF ?aO ?aB ?aS ?aL ?_
      (case aP => exact k78_mkM _ _ _ (⟨(rd_T81 l0 x4_1).f0, (⟨t394, t395⟩ : S30), (⟨t399, t400⟩ : S30)⟩ : S78) (Kd.R_mono (Kd.R_apart' (HO397.out) (Kd.R_typed HO_3.out) (by decide)) (fun k_ hk => ⟨trivial, hk.2⟩)) (Kd.R_mono (Kd.R_apart' (HO402.out) (Kd.R_typed HO_3.out) (by decide)) (fun k_ hk => ⟨trivial, hk.2⟩)))
      (case aB => exact (by repeat (first | (with_reducible first | exact HB.out | apply bA_ | apply bN_ | apply bD_) | exact HB.out)))
      (case aF => exact (fun _ _ => trivial))
      (case aO => exact (by (with_reducible repeat (first | apply Kd.R_alloc | apply Kd.R_drewN | apply Kd.R_drew)); exact Kd.R_mono HO_3.out (fun _ hk => trivial)))
      (case aS => exact (bZ_ (by repeat (first | (with_reducible first | exact HB.out | apply bA_ | apply bN_ | apply bD_) | exact HB.out))))
      (case aL => have := LMc6.out; omega)
      intro v404 w12 ho hb hg hat
      rw [← Ny403.out] at ho
      have n0_ := Az_.mk (hb)
      have n1_ := Az_.mk (ho)
      clear HB
      clear HO_3
      clear HO397
      clear HO402
      have HB := n0_
      have HO405 := n1_
      clear n0_ n1_
      clear ho hb hg hat
      refine hK.out _ _ ⟨((HB.out.cell (World.block_lt_of_cell? w _ hw392_0)).trans hw392_0), ((HB.out.cell (World.block_lt_of_cell? w _ hw392_1)).trans hw392_1), ((HB.out.cell (World.block_lt_of_cell? w _ hw392_2)).trans hw392_2), ((HB.out.cell (World.block_lt_of_cell? w _ hw392_3)).trans hw392_3), ((HB.out.cell (World.block_lt_of_cell? w _ hw392_4)).trans hw392_4), ((HB.out.cell (World.block_lt_of_cell? w _ hw393_0)).trans hw393_0), ((HB.out.cell (World.block_lt_of_cell? w _ hw393_1)).trans hw393_1), ((HB.out.cell (World.block_lt_of_cell? w _ hw393_2)).trans hw393_2), ((HB.out.cell (World.block_lt_of_cell? w _ hw393_3)).trans hw393_3), ((HB.out.cell (World.block_lt_of_cell? w _ hw393_4)).trans hw393_4), ((HB.out.cell (World.block_lt_of_cell? w _ hw398_0)).trans hw398_0), ((HB.out.cell (World.block_lt_of_cell? w _ hw398_1)).trans hw398_1), ((HB.out.cell (World.block_lt_of_cell? w _ hw398_2)).trans hw398_2), ((HB.out.cell (World.block_lt_of_cell? w _ hw398_3)).trans hw398_3), ((HB.out.cell (World.block_lt_of_cell? w _ hw398_4)).trans hw398_4)⟩ (fun hHeld => ?_)
      clear hK K
      refine norm_ (a' := ?_) ?_ ?_
      rotate_left
      ·show Act.put _ (some 31) _ = _
       simp only [Act.put, sA_, sZ_, sS_, i64_w, i32_w]
       rfl
      refine pure_ (i := 21) (N := some 3) (v := ?_) (a' := ?_) #[true, true, true, true, true, true, true, true, true, true, true, true, true, true, true, true, true, true, true, true, true, true] rfl rfl (any_of HT_.out (by kernel_rfl)) (fun _ _ _ h => h) (Or.inl ⟨by rfl, ?_⟩) ?_ ?_
      rotate_left
      ·intro w'
       go_simp
       with_reducible rfl
      rotate_left
      ·simp only [Act.put, sA_, sZ_, sS_, i64_w, i32_w]
       rfl
      refine done_ (done_of HT_.out (by kernel_rfl)) ?_
      try go_wp2
      go_roundg k1
      case measure => have := HK1.out; omega
      case rel => exact ⟨(y403), (wrap64 (x4_1 + 1)), (by first | rfl | (simp; done) | (simp [*]; done)), H', ⟨by have := HK1.out; omega⟩, ⟨by (with_reducible repeat (first | apply Kd.R_alloc | apply Kd.R_drewN | apply Kd.R_drew)); exact HO405.out⟩, ⟨by repeat (first | (with_reducible first | exact HB.out | apply bA_ | apply bN_ | apply bD_) | exact HB.out)⟩⟩
     ·rw [if_neg c6] at H
      exact absurd H (by simp)
    ·rw [if_neg c3] at H
     exact absurd H (by simp)
   ·rw [if_neg c2] at H
    have c2b0 : decide (x4_1 < (l0.length : Int)) = false := decide_eq_false c2
    clear c2
    obtain rfl := Option.some.inj H
    go_wp2
    go_ret
    exact ⟨_, by first | rfl | (simp [yad_, yac_] <;> rfl) | (simp [*, yad_, yac_] <;> rfl), by (with_reducible repeat (first | apply Kd.R_alloc | apply Kd.R_drewN | apply Kd.R_drew)); exact HO_3.out, by repeat (first | (with_reducible first | exact HB.out | apply bA_ | apply bN_ | apply bD_) | exact HB.out)⟩
end
section
attribute [local go_sem] max2_int min2_int max_two min_two yal_ yak_ max_four min_four
def soritesref14_Greatest.l0 : Nat → List (S81) → Int → Int → Option (Bool)
 | 0, _, _, _ => none
 | k + 1, x0, x1, x5 => if x5 < (x0.length : Int) then (if 0 ≤ x5 then (if 0 ≤ x1 then (if x1 < (x0.length : Int) then ((soritesref14_Greater.f k ((rd_T81 x0 x5).f0) ((rd_T81 x0 x5).f1.f0) ((rd_T81 x0 x5).f1.f1) ((rd_T81 x0 x5).f2.f0) ((rd_T81 x0 x5).f2.f1) ((rd_T81 x0 x1).f0) ((rd_T81 x0 x1).f1.f0) ((rd_T81 x0 x1).f1.f1) ((rd_T81 x0 x1).f2.f0) ((rd_T81 x0 x1).f2.f1)).bind fun t445 => (if t445 = true then (some false) else (soritesref14_Greatest.l0 k x0 x1 (wrap64 (x5 + 1))))) else (none)) else (none)) else (none)) else (some true)
def soritesref14_Greatest.f (k : Nat) (l0 : List (S81)) (a1 : Int) : Option (Bool) := soritesref14_Greatest.l0 k l0 a1 0
def soritesref14_Greatest.T4 : Bool × List (List Nat × List Nat) := (true, [([], []), ([], []), ([0, 1], [0, 1]), ([2], [2]), ([], []), ([], []), ([4, 5], [4, 5]), ([6], [6]), ([3, 7], [3, 7])])
def soritesref14_Greatest.B4 : List Nat := [0, 0, 3, 7, 0, 0, 48, 112, 255]
theorem soritesref14_Greatest.tab4 : rtab .any (opsOf Try.f57 4) = soritesref14_Greatest.T4 := by kernel_rfl
theorem soritesref14_Greatest.bits4 : waitsOk soritesref14_Greatest.T4.2 soritesref14_Greatest.B4 = true := by kernel_rfl
set_option maxHeartbeats 8000000 in
set_option maxRecDepth 100000 in
theorem soritesref14_Greatest.calls (k : Nat) (A0 : Option Addr) (c0 : Nat) (l0 : List (S81)) (a1 : Int) (r : Bool) (w : World) (hr0 : Kd.C k81 w A0 l0.length l0) (hc0 : l0.length ≤ c0) (h : soritesref14_Greatest.f k l0 a1 = some r) :
  Calls Try.prog 57 #[.slice A0 l0.length c0, .int .i64 a1] w fun e w' => e = .returned (.bool r) ∧ Below w.heap.size w w' := by
 have hu81 := Try.underlying81
 have HR0 := Az_.mk hr0
 have HC0 := Az_.mk hc0
 clear hr0 hc0
 have HB := Az_.mk (Below.refl w.heap.size w)
 have H : (soritesref14_Greatest.l0 k l0 a1 0) = some r := h
 clear h
 have H' := Az_.mk H
 clear H
 go_enter Try.func57, Try.ntmps57
 go_wp2
 go_loopg [5] k (fun kq v5 w' => ∃ (x5_1 : Int), v5 = .int .i64 x5_1 ∧ Az_ (soritesref14_Greatest.l0 kq l0 a1 x5_1 = some r) ∧ Az_ (kq ≤ k) ∧ Az_ (Below w.heap.size w w'))
 case atStart => exact ⟨(0), (by first | rfl | (simp; done) | (simp [*]; done)), H', ⟨Nat.le_refl _⟩, ⟨by repeat (first | (with_reducible first | exact HB.out | apply bA_ | apply bN_ | apply bD_) | exact HB.out)⟩⟩
 case round =>
  clear H'
  try clear p2
  obtain ⟨x5_1, rfl, HA, HK1, HB⟩ := hrel
  cases gk with
  | zero => exact absurd HA.out (by simp [soritesref14_Greatest.l0])
  | succ k1 =>
   have H := HA.out
   clear HA
   simp only [soritesref14_Greatest.l0] at H
   by_cases c3 : x5_1 < (l0.length : Int)
   ·rw [if_pos c3] at H
    have c3b0 : decide (x5_1 < (l0.length : Int)) = true := decide_eq_true c3
    clear c3
    by_cases c4 : 0 ≤ x5_1
    ·rw [if_pos c4] at H
     have c4b0 : decide (0 ≤ x5_1) = true := decide_eq_true c4
     clear c4
     by_cases c5 : 0 ≤ a1
     ·rw [if_pos c5] at H
      have c5b0 : decide (0 ≤ a1) = true := decide_eq_true c5
      clear c5
      by_cases c6 : a1 < (l0.length : Int)
      ·rw [if_pos c6] at H
       have c6b0 : decide (a1 < (l0.length : Int)) = true := decide_eq_true c6
       clear c6
       replace H := Option.bind_eq_some_iff.mp H
       obtain ⟨t445, A70, H⟩ := H
       replace H : (if t445 = true then (some false) else (soritesref14_Greatest.l0 k1 l0 a1 (wrap64 (x5_1 + 1)))) = some r := H
       have A7 := Az_.mk A70
       clear A70
       by_cases c8 : t445 = true
       ·subst c8
        have H1 : (some false) = some r := by rw [if_pos rfl] at H; exact H
        clear H
        have H := H1
        clear H1
        obtain rfl := Option.some.inj H
        try go_wp2
        have n0_ := Az_.mk (bD_ HB.out)
        clear HB
        have HB := n0_
        clear n0_
        have p443 : 0 ≤ (x5_1 : Int) := of_decide_eq_true (by first | (with_reducible assumption) | assumption)
        have q443 : x5_1 < (l0.length : Int) := of_decide_eq_true (by first | (with_reducible assumption) | assumption)
        obtain ⟨ad443, A443_2, c443_2, A443_4, c443_4, e443, hx443_0, hx443_1, hx443_2, hx443_3, hx443_4, hl443_2, hi443_2, hl443_4, hi443_4⟩ := at_T81 HR0.out x5_1 p443 q443
        have hw443_4 := hx443_4
        have hw443_3 := hx443_3
        have hw443_2 := hx443_2
        have hw443_1 := hx443_1
        have hw443_0 := hx443_0
        cases e443
        replace hx443_0 := (HB.out.cell (World.block_lt_of_cell? w _ hx443_0)).trans hx443_0
        replace hx443_1 := (HB.out.cell (World.block_lt_of_cell? w _ hx443_1)).trans hx443_1
        replace hx443_2 := (HB.out.cell (World.block_lt_of_cell? w _ hx443_2)).trans hx443_2
        replace hx443_3 := (HB.out.cell (World.block_lt_of_cell? w _ hx443_3)).trans hx443_3
        replace hx443_4 := (HB.out.cell (World.block_lt_of_cell? w _ hx443_4)).trans hx443_4
        have HR443_2 := Az_.mk hi443_2
        have HC443_2 := Az_.mk hl443_2
        clear hi443_2 hl443_2
        have HR443_4 := Az_.mk hi443_4
        have HC443_4 := Az_.mk hl443_4
        clear hi443_4 hl443_4
        replace p443 := eq_true p443
        replace q443 := eq_true q443
        have p444 : 0 ≤ (a1 : Int) := of_decide_eq_true (by first | (with_reducible assumption) | assumption)
        have q444 : a1 < (l0.length : Int) := of_decide_eq_true (by first | (with_reducible assumption) | assumption)
        obtain ⟨ad444, A444_2, c444_2, A444_4, c444_4, e444, hx444_0, hx444_1, hx444_2, hx444_3, hx444_4, hl444_2, hi444_2, hl444_4, hi444_4⟩ := at_T81 HR0.out a1 p444 q444
        have hw444_4 := hx444_4
        have hw444_3 := hx444_3
        have hw444_2 := hx444_2
        have hw444_1 := hx444_1
        have hw444_0 := hx444_0
        obtain rfl : ad443 = ad444 := (by injection e444)
        replace hx444_0 := (HB.out.cell (World.block_lt_of_cell? w _ hx444_0)).trans hx444_0
        replace hx444_1 := (HB.out.cell (World.block_lt_of_cell? w _ hx444_1)).trans hx444_1
        replace hx444_2 := (HB.out.cell (World.block_lt_of_cell? w _ hx444_2)).trans hx444_2
        replace hx444_3 := (HB.out.cell (World.block_lt_of_cell? w _ hx444_3)).trans hx444_3
        replace hx444_4 := (HB.out.cell (World.block_lt_of_cell? w _ hx444_4)).trans hx444_4
        have HR444_2 := Az_.mk hi444_2
        have HC444_2 := Az_.mk hl444_2
        clear hi444_2 hl444_2
        have HR444_4 := Az_.mk hi444_4
        have HC444_4 := Az_.mk hl444_4
        clear hi444_4 hl444_4
        replace p444 := eq_true p444
        replace q444 := eq_true q444
        refine start_ (n := 9) (S := fun w' => w'.cell? (ad443.add ((x5_1).toNat * 5)) = some (.bool ((rd_T81 l0 x5_1).f0)) ∧ w'.cell? ⟨(ad443.add ((x5_1).toNat * 5)).block, (ad443.add ((x5_1).toNat * 5)).off + 1, none⟩ = some (.int .i64 ((rd_T81 l0 x5_1).f1.f0)) ∧ w'.cell? ⟨(ad443.add ((x5_1).toNat * 5)).block, (ad443.add ((x5_1).toNat * 5)).off + 2, none⟩ = some (.slice A443_2 ((rd_T81 l0 x5_1).f1.f1).length c443_2) ∧ w'.cell? ⟨(ad443.add ((x5_1).toNat * 5)).block, (ad443.add ((x5_1).toNat * 5)).off + 3, none⟩ = some (.int .i64 ((rd_T81 l0 x5_1).f2.f0)) ∧ w'.cell? ⟨(ad443.add ((x5_1).toNat * 5)).block, (ad443.add ((x5_1).toNat * 5)).off + 4, none⟩ = some (.slice A443_4 ((rd_T81 l0 x5_1).f2.f1).length c443_4) ∧ w'.cell? (ad443.add ((a1).toNat * 5)) = some (.bool ((rd_T81 l0 a1).f0)) ∧ w'.cell? ⟨(ad443.add ((a1).toNat * 5)).block, (ad443.add ((a1).toNat * 5)).off + 1, none⟩ = some (.int .i64 ((rd_T81 l0 a1).f1.f0)) ∧ w'.cell? ⟨(ad443.add ((a1).toNat * 5)).block, (ad443.add ((a1).toNat * 5)).off + 2, none⟩ = some (.slice A444_2 ((rd_T81 l0 a1).f1.f1).length c444_2) ∧ w'.cell? ⟨(ad443.add ((a1).toNat * 5)).block, (ad443.add ((a1).toNat * 5)).off + 3, none⟩ = some (.int .i64 ((rd_T81 l0 a1).f2.f0)) ∧ w'.cell? ⟨(ad443.add ((a1).toNat * 5)).block, (ad443.add ((a1).toNat * 5)).off + 4, none⟩ = some (.slice A444_4 ((rd_T81 l0 a1).f2.f1).length c444_4)) (ds := []) #[false, false, false, false, false, false, false, false, false] (by kernel_rfl) rfl rfl ⟨((HB.out.cell (World.block_lt_of_cell? w _ hw443_0)).trans hw443_0), ((HB.out.cell (World.block_lt_of_cell? w _ hw443_1)).trans hw443_1), ((HB.out.cell (World.block_lt_of_cell? w _ hw443_2)).trans hw443_2), ((HB.out.cell (World.block_lt_of_cell? w _ hw443_3)).trans hw443_3), ((HB.out.cell (World.block_lt_of_cell? w _ hw443_4)).trans hw443_4), ((HB.out.cell (World.block_lt_of_cell? w _ hw444_0)).trans hw444_0), ((HB.out.cell (World.block_lt_of_cell? w _ hw444_1)).trans hw444_1), ((HB.out.cell (World.block_lt_of_cell? w _ hw444_2)).trans hw444_2), ((HB.out.cell (World.block_lt_of_cell? w _ hw444_3)).trans hw444_3), ((HB.out.cell (World.block_lt_of_cell? w _ hw444_4)).trans hw444_4)⟩ (fun hHeld => ?_); refine with_tabW soritesref14_Greatest.tab4 soritesref14_Greatest.bits4 (fun HT_ HW_ => ?_)
        generalize wr.drew = w9 at HB HR443_2 HR443_4 HR444_2 HR444_4 hx443_0 hx443_1 hx443_2 hx443_3 hx443_4 hx444_0 hx444_1 hx444_2 hx444_3 hx444_4 hHeld ⊢
        refine pure_ (i := 0) (N := some 12) (v := ?_) (a' := ?_) #[true, false, false, false, false, false, false, false, false] rfl rfl (any_of HT_.out (by kernel_rfl)) (fun _ _ _ h => h) (Or.inl ⟨by rfl, ?_⟩) ?_ ?_
        rotate_left
        ·intro w'
         go_simp
         with_reducible rfl
        rotate_left
        ·simp only [Act.put, sA_, sZ_, sS_, i64_w, i32_w]
         rfl
        refine pure_ (i := 1) (N := some 13) (v := ?_) (a' := ?_) #[true, true, false, false, false, false, false, false, false] rfl rfl (any_of HT_.out (by kernel_rfl)) (fun _ _ _ h => h) (Or.inl ⟨by rfl, ?_⟩) ?_ ?_
        rotate_left
        ·intro w'
         go_simp
         with_reducible rfl
        rotate_left
        ·simp only [Act.put, sA_, sZ_, sS_, i64_w, i32_w]
         rfl
        refine pure_ (i := 2) (N := some 14) (v := ?_) (a' := ?_) #[true, true, true, false, false, false, false, false, false] rfl rfl (any_of HT_.out (by kernel_rfl)) (fun _ _ _ h => h) (Or.inl ⟨by rfl, ?_⟩) ?_ ?_
        rotate_left
        ·intro w'
         go_simp
         with_reducible rfl
        rotate_left
        ·simp only [Act.put, sA_, sZ_, sS_, i64_w, i32_w]
         rfl
        refine pure_ (i := 4) (N := some 16) (v := ?_) (a' := ?_) #[true, true, true, false, true, false, false, false, false] rfl rfl (any_of HT_.out (by kernel_rfl)) (fun _ _ _ h => h) (Or.inl ⟨by rfl, ?_⟩) ?_ ?_
        rotate_left
        ·intro w'
         go_simp
         with_reducible rfl
        rotate_left
        ·simp only [Act.put, sA_, sZ_, sS_, i64_w, i32_w]
         rfl
        refine pure_ (i := 5) (N := some 17) (v := ?_) (a' := ?_) #[true, true, true, false, true, true, false, false, false] rfl rfl (any_of HT_.out (by kernel_rfl)) (fun _ _ _ h => h) (Or.inl ⟨by rfl, ?_⟩) ?_ ?_
        rotate_left
        ·intro w'
         go_simp
         with_reducible rfl
        rotate_left
        ·simp only [Act.put, sA_, sZ_, sS_, i64_w, i32_w]
         rfl
        refine pure_ (i := 6) (N := some 18) (v := ?_) (a' := ?_) #[true, true, true, false, true, true, true, false, false] rfl rfl (any_of HT_.out (by kernel_rfl)) (fun _ _ _ h => h) (Or.inl ⟨by rfl, ?_⟩) ?_ ?_
        rotate_left
        ·intro w'
         go_simp
         with_reducible rfl
        rotate_left
        ·simp only [Act.put, sA_, sZ_, sS_, i64_w, i32_w]
         rfl
        refine take_ (i := 3) (N := some 15) (v := ?_) (a' := ?_) #[true, true, true, true, true, true, true, false, false] rfl rfl (yaf_ HT_.out HW_.out (by kernel_rfl)) (fun _ _ _ h => h) (Or.inl ⟨by rfl, ?_⟩) hHeld ?_ ?_
        rotate_left
        ·rintro w' ⟨s0, s1, s2, s3, s4, s5, s6, s7, s8, s9⟩
         go_simp
         with_reducible rfl
        rotate_left
        ·simp only [Act.put, sA_, sZ_, sS_, i64_w, i32_w]
         rfl
        refine take_ (i := 7) (N := some 19) (v := ?_) (a' := ?_) #[true, true, true, true, true, true, true, true, false] rfl rfl (yaf_ HT_.out HW_.out (by kernel_rfl)) (fun _ _ _ h => h) (Or.inl ⟨by rfl, ?_⟩) hHeld ?_ ?_
        rotate_left
        ·rintro w' ⟨s0, s1, s2, s3, s4, s5, s6, s7, s8, s9⟩
         go_simp
         with_reducible rfl
        rotate_left
        ·simp only [Act.put, sA_, sZ_, sS_, i64_w, i32_w]
         rfl
        refine one_ (i := 8) (N := some 20) #[true, true, true, true, true, true, true, true, true] rfl rfl (one_of HT_.out (by kernel_rfl)) (by decide) (fun K hK => ?_)
        refine goes_ Try.func67 (by kernel_rfl) rfl #[.agg #[.bool ((rd_T81 l0 x5_1).f0), .int .i64 ((rd_T81 l0 x5_1).f1.f0), .slice A443_2 ((rd_T81 l0 x5_1).f1.f1).length c443_2, .int .i64 ((rd_T81 l0 x5_1).f2.f0), .slice A443_4 ((rd_T81 l0 x5_1).f2.f1).length c443_4], .agg #[.bool ((rd_T81 l0 a1).f0), .int .i64 ((rd_T81 l0 a1).f1.f0), .slice A444_2 ((rd_T81 l0 a1).f1.f1).length c444_2, .int .i64 ((rd_T81 l0 a1).f2.f0), .slice A444_4 ((rd_T81 l0 a1).f2.f1).length c444_4]] (by rfl) rfl rfl (by (try simp only [List.map_toArray, List.map_cons, List.map_nil]); first | done | rfl | (simp only [List.length_drop, List.length_take]; rfl)) ?_
        with_reducible refine (soritesref14_Greater.calls k1 ((rd_T81 l0 x5_1).f0) ((rd_T81 l0 x5_1).f1.f0) _ _ ((rd_T81 l0 x5_1).f1.f1) ((rd_T81 l0 x5_1).f2.f0) _ _ ((rd_T81 l0 x5_1).f2.f1) ((rd_T81 l0 a1).f0) ((rd_T81 l0 a1).f1.f0) _ _ ((rd_T81 l0 a1).f1.f1) ((rd_T81 l0 a1).f2.f0) _ _ ((rd_T81 l0 a1).f2.f1) true _ ?side1 ?side2 ?side3 ?side4 ?side5 ?side6 ?side7 ?side8 A7.out).mono ?_
        (case side1 => repeat (first | exact (Kd.C_below HR443_2.out HB.out) | (with_reducible refine Kd.C_alloc ?_ _) | (with_reducible refine Kd.C_drewN ?_ _) | (with_reducible refine Kd.C_drew ?_)))
        (case side2 => exact HC443_2.out)
        (case side3 => repeat (first | exact (Kd.C_below HR443_4.out HB.out) | (with_reducible refine Kd.C_alloc ?_ _) | (with_reducible refine Kd.C_drewN ?_ _) | (with_reducible refine Kd.C_drew ?_)))
        (case side4 => exact HC443_4.out)
        (case side5 => repeat (first | exact (Kd.C_below HR444_2.out HB.out) | (with_reducible refine Kd.C_alloc ?_ _) | (with_reducible refine Kd.C_drewN ?_ _) | (with_reducible refine Kd.C_drew ?_)))
        (case side6 => exact HC444_2.out)
        (case side7 => repeat (first | exact (Kd.C_below HR444_4.out HB.out) | (with_reducible refine Kd.C_alloc ?_ _) | (with_reducible refine Kd.C_drewN ?_ _) | (with_reducible refine Kd.C_drew ?_)))
        (case side8 => exact HC444_4.out)
        rintro e w10 ⟨rfl, hb⟩
        refine ⟨_, rfl, ?_⟩
        have n0_ := Az_.mk (bT_ (by repeat (first | (with_reducible first | exact HB.out | apply bA_ | apply bN_ | apply bD_) | exact HB.out)) hb)
        clear HB
        have HB := n0_
        clear n0_
        (try clear hb)
        (try clear hb2)
        (try clear hk)
        (try clear hi)
        refine hK.out _ _ ⟨((HB.out.cell (World.block_lt_of_cell? w _ hw443_0)).trans hw443_0), ((HB.out.cell (World.block_lt_of_cell? w _ hw443_1)).trans hw443_1), ((HB.out.cell (World.block_lt_of_cell? w _ hw443_2)).trans hw443_2), ((HB.out.cell (World.block_lt_of_cell? w _ hw443_3)).trans hw443_3), ((HB.out.cell (World.block_lt_of_cell? w _ hw443_4)).trans hw443_4), ((HB.out.cell (World.block_lt_of_cell? w _ hw444_0)).trans hw444_0), ((HB.out.cell (World.block_lt_of_cell? w _ hw444_1)).trans hw444_1), ((HB.out.cell (World.block_lt_of_cell? w _ hw444_2)).trans hw444_2), ((HB.out.cell (World.block_lt_of_cell? w _ hw444_3)).trans hw444_3), ((HB.out.cell (World.block_lt_of_cell? w _ hw444_4)).trans hw444_4)⟩ (fun hHeld => ?_)
        clear hK K
        refine norm_ (a' := ?_) ?_ ?_
        rotate_left
        ·show Act.put _ (some 20) _ = _
         simp only [Act.put, sA_, sZ_, sS_, i64_w, i32_w]
         rfl
        refine done_ (done_of HT_.out (by kernel_rfl)) ?_
        try go_wp2
        go_ret
        exact ⟨by first | rfl | (simp [yad_, yac_] <;> rfl) | (simp [*, yad_, yac_] <;> rfl), by repeat (first | (with_reducible first | exact HB.out | apply bA_ | apply bN_ | apply bD_) | exact HB.out)⟩
       ·replace c8 := Bool.eq_false_iff.mpr c8
        subst c8
        have H1 : (soritesref14_Greatest.l0 k1 l0 a1 (wrap64 (x5_1 + 1))) = some r := by rw [if_neg (show ¬ (false = true) by decide)] at H; exact H
        clear H
        have H := H1
        clear H1
        have H' := Az_.mk H
        clear H
        try go_wp2
        have n0_ := Az_.mk (bD_ HB.out)
        clear HB
        have HB := n0_
        clear n0_
        have p443 : 0 ≤ (x5_1 : Int) := of_decide_eq_true (by first | (with_reducible assumption) | assumption)
        have q443 : x5_1 < (l0.length : Int) := of_decide_eq_true (by first | (with_reducible assumption) | assumption)
        obtain ⟨ad443, A443_2, c443_2, A443_4, c443_4, e443, hx443_0, hx443_1, hx443_2, hx443_3, hx443_4, hl443_2, hi443_2, hl443_4, hi443_4⟩ := at_T81 HR0.out x5_1 p443 q443
        have hw443_4 := hx443_4
        have hw443_3 := hx443_3
        have hw443_2 := hx443_2
        have hw443_1 := hx443_1
        have hw443_0 := hx443_0
        cases e443
        replace hx443_0 := (HB.out.cell (World.block_lt_of_cell? w _ hx443_0)).trans hx443_0
        replace hx443_1 := (HB.out.cell (World.block_lt_of_cell? w _ hx443_1)).trans hx443_1
        replace hx443_2 := (HB.out.cell (World.block_lt_of_cell? w _ hx443_2)).trans hx443_2
        replace hx443_3 := (HB.out.cell (World.block_lt_of_cell? w _ hx443_3)).trans hx443_3
        replace hx443_4 := (HB.out.cell (World.block_lt_of_cell? w _ hx443_4)).trans hx443_4
        have HR443_2 := Az_.mk hi443_2
        have HC443_2 := Az_.mk hl443_2
        clear hi443_2 hl443_2
        have HR443_4 := Az_.mk hi443_4
        have HC443_4 := Az_.mk hl443_4
        clear hi443_4 hl443_4
        replace p443 := eq_true p443
        replace q443 := eq_true q443
        have p444 : 0 ≤ (a1 : Int) := of_decide_eq_true (by first | (with_reducible assumption) | assumption)
        have q444 : a1 < (l0.length : Int) := of_decide_eq_true (by first | (with_reducible assumption) | assumption)
        obtain ⟨ad444, A444_2, c444_2, A444_4, c444_4, e444, hx444_0, hx444_1, hx444_2, hx444_3, hx444_4, hl444_2, hi444_2, hl444_4, hi444_4⟩ := at_T81 HR0.out a1 p444 q444
        have hw444_4 := hx444_4
        have hw444_3 := hx444_3
        have hw444_2 := hx444_2
        have hw444_1 := hx444_1
        have hw444_0 := hx444_0
        obtain rfl : ad443 = ad444 := (by injection e444)
        replace hx444_0 := (HB.out.cell (World.block_lt_of_cell? w _ hx444_0)).trans hx444_0
        replace hx444_1 := (HB.out.cell (World.block_lt_of_cell? w _ hx444_1)).trans hx444_1
        replace hx444_2 := (HB.out.cell (World.block_lt_of_cell? w _ hx444_2)).trans hx444_2
        replace hx444_3 := (HB.out.cell (World.block_lt_of_cell? w _ hx444_3)).trans hx444_3
        replace hx444_4 := (HB.out.cell (World.block_lt_of_cell? w _ hx444_4)).trans hx444_4
        have HR444_2 := Az_.mk hi444_2
        have HC444_2 := Az_.mk hl444_2
        clear hi444_2 hl444_2
        have HR444_4 := Az_.mk hi444_4
        have HC444_4 := Az_.mk hl444_4
        clear hi444_4 hl444_4
        replace p444 := eq_true p444
        replace q444 := eq_true q444
        refine start_ (n := 9) (S := fun w' => w'.cell? (ad443.add ((x5_1).toNat * 5)) = some (.bool ((rd_T81 l0 x5_1).f0)) ∧ w'.cell? ⟨(ad443.add ((x5_1).toNat * 5)).block, (ad443.add ((x5_1).toNat * 5)).off + 1, none⟩ = some (.int .i64 ((rd_T81 l0 x5_1).f1.f0)) ∧ w'.cell? ⟨(ad443.add ((x5_1).toNat * 5)).block, (ad443.add ((x5_1).toNat * 5)).off + 2, none⟩ = some (.slice A443_2 ((rd_T81 l0 x5_1).f1.f1).length c443_2) ∧ w'.cell? ⟨(ad443.add ((x5_1).toNat * 5)).block, (ad443.add ((x5_1).toNat * 5)).off + 3, none⟩ = some (.int .i64 ((rd_T81 l0 x5_1).f2.f0)) ∧ w'.cell? ⟨(ad443.add ((x5_1).toNat * 5)).block, (ad443.add ((x5_1).toNat * 5)).off + 4, none⟩ = some (.slice A443_4 ((rd_T81 l0 x5_1).f2.f1).length c443_4) ∧ w'.cell? (ad443.add ((a1).toNat * 5)) = some (.bool ((rd_T81 l0 a1).f0)) ∧ w'.cell? ⟨(ad443.add ((a1).toNat * 5)).block, (ad443.add ((a1).toNat * 5)).off + 1, none⟩ = some (.int .i64 ((rd_T81 l0 a1).f1.f0)) ∧ w'.cell? ⟨(ad443.add ((a1).toNat * 5)).block, (ad443.add ((a1).toNat * 5)).off + 2, none⟩ = some (.slice A444_2 ((rd_T81 l0 a1).f1.f1).length c444_2) ∧ w'.cell? ⟨(ad443.add ((a1).toNat * 5)).block, (ad443.add ((a1).toNat * 5)).off + 3, none⟩ = some (.int .i64 ((rd_T81 l0 a1).f2.f0)) ∧ w'.cell? ⟨(ad443.add ((a1).toNat * 5)).block, (ad443.add ((a1).toNat * 5)).off + 4, none⟩ = some (.slice A444_4 ((rd_T81 l0 a1).f2.f1).length c444_4)) (ds := []) #[false, false, false, false, false, false, false, false, false] (by kernel_rfl) rfl rfl ⟨((HB.out.cell (World.block_lt_of_cell? w _ hw443_0)).trans hw443_0), ((HB.out.cell (World.block_lt_of_cell? w _ hw443_1)).trans hw443_1), ((HB.out.cell (World.block_lt_of_cell? w _ hw443_2)).trans hw443_2), ((HB.out.cell (World.block_lt_of_cell? w _ hw443_3)).trans hw443_3), ((HB.out.cell (World.block_lt_of_cell? w _ hw443_4)).trans hw443_4), ((HB.out.cell (World.block_lt_of_cell? w _ hw444_0)).trans hw444_0), ((HB.out.cell (World.block_lt_of_cell? w _ hw444_1)).trans hw444_1), ((HB.out.cell (World.block_lt_of_cell? w _ hw444_2)).trans hw444_2), ((HB.out.cell (World.block_lt_of_cell? w _ hw444_3)).trans hw444_3), ((HB.out.cell (World.block_lt_of_cell? w _ hw444_4)).trans hw444_4)⟩ (fun hHeld => ?_); refine with_tabW soritesref14_Greatest.tab4 soritesref14_Greatest.bits4 (fun HT_ HW_ => ?_)
        generalize wr.drew = w11 at HB HR443_2 HR443_4 HR444_2 HR444_4 hx443_0 hx443_1 hx443_2 hx443_3 hx443_4 hx444_0 hx444_1 hx444_2 hx444_3 hx444_4 hHeld ⊢
        refine pure_ (i := 0) (N := some 12) (v := ?_) (a' := ?_) #[true, false, false, false, false, false, false, false, false] rfl rfl (any_of HT_.out (by kernel_rfl)) (fun _ _ _ h => h) (Or.inl ⟨by rfl, ?_⟩) ?_ ?_
        rotate_left
        ·intro w'
         go_simp
         with_reducible rfl
        rotate_left
        ·simp only [Act.put, sA_, sZ_, sS_, i64_w, i32_w]
         rfl
        refine pure_ (i := 1) (N := some 13) (v := ?_) (a' := ?_) #[true, true, false, false, false, false, false, false, false] rfl rfl (any_of HT_.out (by kernel_rfl)) (fun _ _ _ h => h) (Or.inl ⟨by rfl, ?_⟩) ?_ ?_
        rotate_left
        ·intro w'
         go_simp
         with_reducible rfl
        rotate_left
        ·simp only [Act.put, sA_, sZ_, sS_, i64_w, i32_w]
         rfl
        refine pure_ (i := 2) (N := some 14) (v := ?_) (a' := ?_) #[true, true, true, false, false, false, false, false, false] rfl rfl (any_of HT_.out (by kernel_rfl)) (fun _ _ _ h => h) (Or.inl ⟨by rfl, ?_⟩) ?_ ?_
        rotate_left
        ·intro w'
         go_simp
         with_reducible rfl
        rotate_left
        ·simp only [Act.put, sA_, sZ_, sS_, i64_w, i32_w]
         rfl
        refine pure_ (i := 4) (N := some 16) (v := ?_) (a' := ?_) #[true, true, true, false, true, false, false, false, false] rfl rfl (any_of HT_.out (by kernel_rfl)) (fun _ _ _ h => h) (Or.inl ⟨by rfl, ?_⟩) ?_ ?_
        rotate_left
        ·intro w'
         go_simp
         with_reducible rfl
        rotate_left
        ·simp only [Act.put, sA_, sZ_, sS_, i64_w, i32_w]
         rfl
        refine pure_ (i := 5) (N := some 17) (v := ?_) (a' := ?_) #[true, true, true, false, true, true, false, false, false] rfl rfl (any_of HT_.out (by kernel_rfl)) (fun _ _ _ h => h) (Or.inl ⟨by rfl, ?_⟩) ?_ ?_
        rotate_left
        ·intro w'
         go_simp
         with_reducible rfl
        rotate_left
        ·simp only [Act.put, sA_, sZ_, sS_, i64_w, i32_w]
         rfl
        refine pure_ (i := 6) (N := some 18) (v := ?_) (a' := ?_) #[true, true, true, false, true, true, true, false, false] rfl rfl (any_of HT_.out (by kernel_rfl)) (fun _ _ _ h => h) (Or.inl ⟨by rfl, ?_⟩) ?_ ?_
        rotate_left
        ·intro w'
         go_simp
         with_reducible rfl
        rotate_left
        ·simp only [Act.put, sA_, sZ_, sS_, i64_w, i32_w]
         rfl
        refine take_ (i := 3) (N := some 15) (v := ?_) (a' := ?_) #[true, true, true, true, true, true, true, false, false] rfl rfl (yaf_ HT_.out HW_.out (by kernel_rfl)) (fun _ _ _ h => h) (Or.inl ⟨by rfl, ?_⟩) hHeld ?_ ?_
        rotate_left
        ·rintro w' ⟨s0, s1, s2, s3, s4, s5, s6, s7, s8, s9⟩
         go_simp
         with_reducible rfl
        rotate_left
        ·simp only [Act.put, sA_, sZ_, sS_, i64_w, i32_w]
         rfl
        refine take_ (i := 7) (N := some 19) (v := ?_) (a' := ?_) #[true, true, true, true, true, true, true, true, false] rfl rfl (yaf_ HT_.out HW_.out (by kernel_rfl)) (fun _ _ _ h => h) (Or.inl ⟨by rfl, ?_⟩) hHeld ?_ ?_
        rotate_left
        ·rintro w' ⟨s0, s1, s2, s3, s4, s5, s6, s7, s8, s9⟩
         go_simp
         with_reducible rfl
        rotate_left
        ·simp only [Act.put, sA_, sZ_, sS_, i64_w, i32_w]
         rfl
        refine one_ (i := 8) (N := some 20) #[true, true, true, true, true, true, true, true, true] rfl rfl (one_of HT_.out (by kernel_rfl)) (by decide) (fun K hK => ?_)
        refine goes_ Try.func67 (by kernel_rfl) rfl #[.agg #[.bool ((rd_T81 l0 x5_1).f0), .int .i64 ((rd_T81 l0 x5_1).f1.f0), .slice A443_2 ((rd_T81 l0 x5_1).f1.f1).length c443_2, .int .i64 ((rd_T81 l0 x5_1).f2.f0), .slice A443_4 ((rd_T81 l0 x5_1).f2.f1).length c443_4], .agg #[.bool ((rd_T81 l0 a1).f0), .int .i64 ((rd_T81 l0 a1).f1.f0), .slice A444_2 ((rd_T81 l0 a1).f1.f1).length c444_2, .int .i64 ((rd_T81 l0 a1).f2.f0), .slice A444_4 ((rd_T81 l0 a1).f2.f1).length c444_4]] (by rfl) rfl rfl (by (try simp only [List.map_toArray, List.map_cons, List.map_nil]); first | done | rfl | (simp only [List.length_drop, List.length_take]; rfl)) ?_
        with_reducible refine (soritesref14_Greater.calls k1 ((rd_T81 l0 x5_1).f0) ((rd_T81 l0 x5_1).f1.f0) _ _ ((rd_T81 l0 x5_1).f1.f1) ((rd_T81 l0 x5_1).f2.f0) _ _ ((rd_T81 l0 x5_1).f2.f1) ((rd_T81 l0 a1).f0) ((rd_T81 l0 a1).f1.f0) _ _ ((rd_T81 l0 a1).f1.f1) ((rd_T81 l0 a1).f2.f0) _ _ ((rd_T81 l0 a1).f2.f1) false _ ?side1 ?side2 ?side3 ?side4 ?side5 ?side6 ?side7 ?side8 A7.out).mono ?_
        (case side1 => repeat (first | exact (Kd.C_below HR443_2.out HB.out) | (with_reducible refine Kd.C_alloc ?_ _) | (with_reducible refine Kd.C_drewN ?_ _) | (with_reducible refine Kd.C_drew ?_)))
        (case side2 => exact HC443_2.out)
        (case side3 => repeat (first | exact (Kd.C_below HR443_4.out HB.out) | (with_reducible refine Kd.C_alloc ?_ _) | (with_reducible refine Kd.C_drewN ?_ _) | (with_reducible refine Kd.C_drew ?_)))
        (case side4 => exact HC443_4.out)
        (case side5 => repeat (first | exact (Kd.C_below HR444_2.out HB.out) | (with_reducible refine Kd.C_alloc ?_ _) | (with_reducible refine Kd.C_drewN ?_ _) | (with_reducible refine Kd.C_drew ?_)))
        (case side6 => exact HC444_2.out)
        (case side7 => repeat (first | exact (Kd.C_below HR444_4.out HB.out) | (with_reducible refine Kd.C_alloc ?_ _) | (with_reducible refine Kd.C_drewN ?_ _) | (with_reducible refine Kd.C_drew ?_)))
        (case side8 => exact HC444_4.out)
        rintro e w12 ⟨rfl, hb⟩
        refine ⟨_, rfl, ?_⟩
        have n0_ := Az_.mk (bT_ (by repeat (first | (with_reducible first | exact HB.out | apply bA_ | apply bN_ | apply bD_) | exact HB.out)) hb)
        clear HB
        have HB := n0_
        clear n0_
        (try clear hb)
        (try clear hb2)
        (try clear hk)
        (try clear hi)
        refine hK.out _ _ ⟨((HB.out.cell (World.block_lt_of_cell? w _ hw443_0)).trans hw443_0), ((HB.out.cell (World.block_lt_of_cell? w _ hw443_1)).trans hw443_1), ((HB.out.cell (World.block_lt_of_cell? w _ hw443_2)).trans hw443_2), ((HB.out.cell (World.block_lt_of_cell? w _ hw443_3)).trans hw443_3), ((HB.out.cell (World.block_lt_of_cell? w _ hw443_4)).trans hw443_4), ((HB.out.cell (World.block_lt_of_cell? w _ hw444_0)).trans hw444_0), ((HB.out.cell (World.block_lt_of_cell? w _ hw444_1)).trans hw444_1), ((HB.out.cell (World.block_lt_of_cell? w _ hw444_2)).trans hw444_2), ((HB.out.cell (World.block_lt_of_cell? w _ hw444_3)).trans hw444_3), ((HB.out.cell (World.block_lt_of_cell? w _ hw444_4)).trans hw444_4)⟩ (fun hHeld => ?_)
        clear hK K
        refine norm_ (a' := ?_) ?_ ?_
        rotate_left
        ·show Act.put _ (some 20) _ = _
         simp only [Act.put, sA_, sZ_, sS_, i64_w, i32_w]
         rfl
        refine done_ (done_of HT_.out (by kernel_rfl)) ?_
        try go_wp2
        go_roundg k1
        case measure => have := HK1.out; omega
        case rel => exact ⟨(wrap64 (x5_1 + 1)), (by first | rfl | (simp; done) | (simp [*]; done)), H', ⟨by have := HK1.out; omega⟩, ⟨by repeat (first | (with_reducible first | exact HB.out | apply bA_ | apply bN_ | apply bD_) | exact HB.out)⟩⟩
      ·rw [if_neg c6] at H
       exact absurd H (by simp)
     ·rw [if_neg c5] at H
      exact absurd H (by simp)
    ·rw [if_neg c4] at H
     exact absurd H (by simp)
   ·rw [if_neg c3] at H
    have c3b0 : decide (x5_1 < (l0.length : Int)) = false := decide_eq_false c3
    clear c3
    obtain rfl := Option.some.inj H
    go_wp2
    go_ret
    exact ⟨by first | rfl | (simp [yad_, yac_] <;> rfl) | (simp [*, yad_, yac_] <;> rfl), by repeat (first | (with_reducible first | exact HB.out | apply bA_ | apply bN_ | apply bD_) | exact HB.out)⟩
end
section
attribute [local go_sem] max2_int min2_int max_two min_two yal_ yak_ max_four min_four
def soritesref14_SameInts.l0 : Nat → List Int → List Int → Int → Option (Bool)
 | 0, _, _, _ => none
 | k + 1, x0, x1, x5 => if x5 < (x0.length : Int) then (if 0 ≤ x5 then (if x5 < (x1.length : Int) then (if (rd x0 x5) = (rd x1 x5) then (soritesref14_SameInts.l0 k x0 x1 (wrap64 (x5 + 1))) else (some false)) else (none)) else (none)) else (some true)
def soritesref14_SameInts.f (k : Nat) (l0 : List Int) (l1 : List Int) : Option (Bool) := if (l0.length : Int) = (l1.length : Int) then (soritesref14_SameInts.l0 k l0 l1 0) else (some false)
set_option maxHeartbeats 8000000 in
set_option maxRecDepth 100000 in
theorem soritesref14_SameInts.calls (k : Nat) (A0 : Option Addr) (c0 : Nat) (l0 : List Int) (A1 : Option Addr) (c1 : Nat) (l1 : List Int) (r : Bool) (w : World) (hr0 : Kd.C (Kd.int .i64) w A0 l0.length l0) (hc0 : l0.length ≤ c0) (hr1 : Kd.C (Kd.int .i64) w A1 l1.length l1) (hc1 : l1.length ≤ c1) (h : soritesref14_SameInts.f k l0 l1 = some r) :
  Calls Try.prog 60 #[.slice A0 l0.length c0, .slice A1 l1.length c1] w fun e w' => e = .returned (.bool r) ∧ Drawn0 w w' := by
 have HR0 := Az_.mk hr0
 have HC0 := Az_.mk hc0
 clear hr0 hc0
 have HR1 := Az_.mk hr1
 have HC1 := Az_.mk hc1
 clear hr1 hc1
 have H : (if (l0.length : Int) = (l1.length : Int) then (soritesref14_SameInts.l0 k l0 l1 0) else (some false)) = some r := h
 clear h
 by_cases c3 : (l0.length : Int) = (l1.length : Int)
 ·rw [if_pos c3] at H
  have c3b0 : ((l0.length : Int) == (l1.length : Int)) = true := beq_iff_eq.mpr c3
  have c3b1 : ((l0.length : Int) != (l1.length : Int)) = false := bne_eq_false_iff_eq.mpr c3
  have c3b2 : (l0.length == l1.length) = true := by first | simpa using c3 | (simp at c3 ⊢; omega)
  clear c3
  have H' := Az_.mk H
  clear H
  go_enter Try.func60, Try.ntmps60
  go_wp2
  repeat (go_quiet (fail); try go_wp2)
  go_loopg [5] k (fun kq v5 w' => ∃ (x5_1 : Int), v5 = .int .i64 x5_1 ∧ Az_ (soritesref14_SameInts.l0 kq l0 l1 x5_1 = some r) ∧ Az_ (kq ≤ k) ∧ Drawn0 w w')
  case atStart => exact ⟨(0), (by first | rfl | (simp; done) | (simp [*]; done)), H', ⟨Nat.le_refl _⟩, by repeat (first | exact Drawn0.refl _ | apply Drawn0.step)⟩
  case round =>
   clear H'
   try clear c1
   try clear p2
   try clear c3
   try clear c3b0
   try clear c3b1
   try clear c3b2
   obtain ⟨x5_1, rfl, HA, HK1, ⟨m1, rfl⟩⟩ := hrel
   cases gk with
   | zero => exact absurd HA.out (by simp [soritesref14_SameInts.l0])
   | succ k1 =>
    have H := HA.out
    clear HA
    simp only [soritesref14_SameInts.l0] at H
    by_cases c4 : x5_1 < (l0.length : Int)
    ·rw [if_pos c4] at H
     have c4b0 : decide (x5_1 < (l0.length : Int)) = true := decide_eq_true c4
     clear c4
     by_cases c5 : 0 ≤ x5_1
     ·rw [if_pos c5] at H
      have c5b0 : decide (0 ≤ x5_1) = true := decide_eq_true c5
      clear c5
      by_cases c6 : x5_1 < (l1.length : Int)
      ·rw [if_pos c6] at H
       have c6b0 : decide (x5_1 < (l1.length : Int)) = true := decide_eq_true c6
       clear c6
       by_cases c7 : (rd l0 x5_1) = (rd l1 x5_1)
       ·rw [if_pos c7] at H
        have c7b0 : ((rd l0 x5_1) == (rd l1 x5_1)) = true := beq_iff_eq.mpr c7
        have c7b1 : ((rd l0 x5_1) != (rd l1 x5_1)) = false := bne_eq_false_iff_eq.mpr c7
        clear c7
        have H' := Az_.mk H
        clear H
        have p446 : 0 ≤ (x5_1 : Int) := of_decide_eq_true (by first | (with_reducible assumption) | assumption)
        have q446 : x5_1 < (l0.length : Int) := of_decide_eq_true (by first | (with_reducible assumption) | assumption)
        obtain ⟨ad446, e446, hx446_0⟩ := Kd.at_int HR0.out x5_1 p446 q446
        cases e446
        replace p446 := eq_true p446
        replace q446 := eq_true q446
        have p447 : 0 ≤ (x5_1 : Int) := of_decide_eq_true (by first | (with_reducible assumption) | assumption)
        have q447 : x5_1 < (l1.length : Int) := of_decide_eq_true (by first | (with_reducible assumption) | assumption)
        obtain ⟨ad447, e447, hx447_0⟩ := Kd.at_int HR1.out x5_1 p447 q447
        cases e447
        replace p447 := eq_true p447
        replace q447 := eq_true q447
        go_wp2
        repeat (go_quiet (fail); try go_wp2)
        go_roundg k1
        case measure => have := HK1.out; omega
        case rel => exact ⟨(wrap64 (x5_1 + 1)), (by first | rfl | (simp; done) | (simp [*]; done)), H', ⟨by have := HK1.out; omega⟩, by repeat (first | exact Drawn0.refl _ | apply Drawn0.step)⟩
       ·rw [if_neg c7] at H
        have c7b0 : ((rd l0 x5_1) == (rd l1 x5_1)) = false := beq_eq_false_iff_ne.mpr c7
        have c7b1 : ((rd l0 x5_1) != (rd l1 x5_1)) = true := bne_iff_ne.mpr c7
        obtain rfl := Option.some.inj H
        have p446 : 0 ≤ (x5_1 : Int) := of_decide_eq_true (by first | (with_reducible assumption) | assumption)
        have q446 : x5_1 < (l0.length : Int) := of_decide_eq_true (by first | (with_reducible assumption) | assumption)
        obtain ⟨ad446, e446, hx446_0⟩ := Kd.at_int HR0.out x5_1 p446 q446
        cases e446
        replace p446 := eq_true p446
        replace q446 := eq_true q446
        have p447 : 0 ≤ (x5_1 : Int) := of_decide_eq_true (by first | (with_reducible assumption) | assumption)
        have q447 : x5_1 < (l1.length : Int) := of_decide_eq_true (by first | (with_reducible assumption) | assumption)
        obtain ⟨ad447, e447, hx447_0⟩ := Kd.at_int HR1.out x5_1 p447 q447
        cases e447
        replace p447 := eq_true p447
        replace q447 := eq_true q447
        go_wp2
        repeat (go_quiet (fail); try go_wp2)
        go_ret
        exact ⟨by first | rfl | (simp; done) | (simp [*]; done), by repeat (first | exact Drawn0.refl _ | apply Drawn0.step)⟩
      ·rw [if_neg c6] at H
       exact absurd H (by simp)
     ·rw [if_neg c5] at H
      exact absurd H (by simp)
    ·rw [if_neg c4] at H
     have c4b0 : decide (x5_1 < (l0.length : Int)) = false := decide_eq_false c4
     clear c4
     obtain rfl := Option.some.inj H
     go_wp2
     repeat (go_quiet (fail); try go_wp2)
     go_ret
     exact ⟨by first | rfl | (simp; done) | (simp [*]; done), by repeat (first | exact Drawn0.refl _ | apply Drawn0.step)⟩
 ·rw [if_neg c3] at H
  have c3b0 : ((l0.length : Int) == (l1.length : Int)) = false := beq_eq_false_iff_ne.mpr c3
  have c3b1 : ((l0.length : Int) != (l1.length : Int)) = true := bne_iff_ne.mpr c3
  have c3b2 : (l0.length == l1.length) = false := by first | simpa using c3 | (simp at c3 ⊢; omega)
  obtain rfl := Option.some.inj H
  go_enter Try.func60, Try.ntmps60
  go_wp2
  repeat (go_quiet (fail); try go_wp2)
  go_ret
  exact ⟨by first | rfl | (simp; done) | (simp [*]; done), by repeat (first | exact Drawn0.refl _ | apply Drawn0.step)⟩
end
section
attribute [local go_sem] max2_int min2_int max_two min_two yal_ yak_ max_four min_four
def soritesref14_weight.f (k : Nat) (a0_0 : Bool) (a0_1 : Int) (l0_2 : List (S24)) (a0_3 : Int) (l0_4 : List (S24)) : Option (Int) := (soritesref06_Flat.f k a0_1 l0_2).bind fun t449 => ((soritesref06_Flat.f k a0_3 l0_4).bind fun t452 => (some (wrap64 ((t449.length : Int) + (t452.length : Int)))))
def soritesref14_weight.T1 : Bool × List (List Nat × List Nat) := (true, [([], []), ([0], [0]), ([1], [1]), ([2], [2]), ([], []), ([4], [4]), ([5, 2], [5]), ([6], [6]), ([3, 7], [3, 7]), ([8, 6, 0, 1, 2, 3, 4, 5, 6, 7, 8], [8])])
def soritesref14_weight.B1 : List Nat := [0, 1, 3, 7, 0, 16, 55, 119, 255, 511]
theorem soritesref14_weight.tab1 : rtab .any (opsOf Try.f89 1) = soritesref14_weight.T1 := by kernel_rfl
theorem soritesref14_weight.bits1 : waitsOk soritesref14_weight.T1.2 soritesref14_weight.B1 = true := by kernel_rfl
set_option maxHeartbeats 8000000 in
set_option maxRecDepth 100000 in
theorem soritesref14_weight.calls (k : Nat) (a0_0 : Bool) (a0_1 : Int) (A0_2 : Option Addr) (c0_2 : Nat) (l0_2 : List (S24)) (a0_3 : Int) (A0_4 : Option Addr) (c0_4 : Nat) (l0_4 : List (S24)) (r : Int) (w : World) (hr0_2 : Kd.C k24 w A0_2 l0_2.length l0_2) (hc0_2 : l0_2.length ≤ c0_2) (hr0_4 : Kd.C k24 w A0_4 l0_4.length l0_4) (hc0_4 : l0_4.length ≤ c0_4) (h : soritesref14_weight.f k a0_0 a0_1 l0_2 a0_3 l0_4 = some r) :
  Calls Try.prog 89 #[.agg #[.bool a0_0, .int .i64 a0_1, .slice A0_2 l0_2.length c0_2, .int .i64 a0_3, .slice A0_4 l0_4.length c0_4]] w fun e w' => e = .returned (.int .i64 r) ∧ Below w.heap.size w w' := by
 have hu81 := Try.underlying81
 have hu24 := Try.underlying24
 have HR0_2 := Az_.mk hr0_2
 have HC0_2 := Az_.mk hc0_2
 clear hr0_2 hc0_2
 have HR0_4 := Az_.mk hr0_4
 have HC0_4 := Az_.mk hc0_4
 clear hr0_4 hc0_4
 have HB := Az_.mk (Below.refl w.heap.size w)
 have H : ((soritesref06_Flat.f k a0_1 l0_2).bind fun t449 => ((soritesref06_Flat.f k a0_3 l0_4).bind fun t452 => (some (wrap64 ((t449.length : Int) + (t452.length : Int)))))) = some r := h
 clear h
 replace H := Option.bind_eq_some_iff.mp H
 obtain ⟨t449, A20, H⟩ := H
 replace H : ((soritesref06_Flat.f k a0_3 l0_4).bind fun t452 => (some (wrap64 ((t449.length : Int) + (t452.length : Int))))) = some r := H
 have A2 := Az_.mk A20
 clear A20
 replace H := Option.bind_eq_some_iff.mp H
 obtain ⟨t452, A30, H⟩ := H
 replace H : (some (wrap64 ((t449.length : Int) + (t452.length : Int)))) = some r := H
 have A3 := Az_.mk A30
 clear A30
 obtain rfl := Option.some.inj H
 go_enter Try.func89, Try.ntmps89
 try go_wp2_with (first | ((with_reducible refine yah_ (N := 1) rfl ?_); refine yai_ ?hg (N := 1) ?hd (cs := #[.bool a0_0, .int .i64 a0_1, .slice A0_2 l0_2.length c0_2, .int .i64 a0_3, .slice A0_4 l0_4.length c0_4]) (t := 81) ?hr ?_; (case hd => rfl); (case hg => rfl); (case hr => first | (go_simp; done) | (go_simp; rfl)); intro gb448 hg w4 hbox hb; have n0_ := Az_.mk (bT_ (by repeat (first | (with_reducible first | exact HB.out | apply bA_ | apply bN_ | apply bD_) | exact HB.out)) hb); have n1_ := Az_.mk (hbox); have n2_ := Az_.mk ((by rw [hg]; exact (bZ_ (by repeat (first | (with_reducible first | exact HB.out | apply bA_ | apply bN_ | apply bD_) | exact HB.out))) : w.heap.size ≤ gb448)); have n3_ := Az_.mk ((by rw [hg]; exact (bZ_ (by repeat (first | (with_reducible first | exact HB.out | apply bA_ | apply bN_ | apply bD_) | exact HB.out))) : w.heap.size ≤ gb448)); clear HB; have HB := n0_; have BK448 := n1_; have GW448 := n2_; have GE448 := n3_; clear n0_ n1_ n2_ n3_; clear hb hbox hg))
 have n0_ := Az_.mk (kD_ BK448.out)
 have n1_ := Az_.mk (bD_ HB.out)
 clear BK448
 clear HB
 have BK448 := n0_
 have HB := n1_
 clear n0_ n1_
 refine start_ (n := 10) (S := fun w' => w'.cell? ⟨gb448, 0, none⟩ = some (.bool a0_0) ∧ w'.cell? ⟨gb448, 1, none⟩ = some (.int .i64 a0_1) ∧ w'.cell? ⟨gb448, 2, none⟩ = some (.slice A0_2 l0_2.length c0_2) ∧ w'.cell? ⟨gb448, 3, none⟩ = some (.int .i64 a0_3) ∧ w'.cell? ⟨gb448, 4, none⟩ = some (.slice A0_4 l0_4.length c0_4)) (ds := []) #[false, false, false, false, false, false, false, false, false, false] (by kernel_rfl) rfl rfl ⟨(yaa_ BK448.out 0).trans rfl, (yaa_ BK448.out 1).trans rfl, (yaa_ BK448.out 2).trans rfl, (yaa_ BK448.out 3).trans rfl, (yaa_ BK448.out 4).trans rfl⟩ (fun hHeld => ?_); refine with_tabW soritesref14_weight.tab1 soritesref14_weight.bits1 (fun HT_ HW_ => ?_)
 generalize w4.drew = w5 at BK448 HB hHeld ⊢
 refine pure_ (i := 0) (N := some 3) (v := ?_) (a' := ?_) #[true, false, false, false, false, false, false, false, false, false] rfl rfl (any_of HT_.out (by kernel_rfl)) (fun _ _ _ h => h) (Or.inl ⟨by rfl, ?_⟩) ?_ ?_
 rotate_left
 ·intro w'
  go_simp
  with_reducible rfl
 rotate_left
 ·simp only [Act.put, sA_, sZ_, sS_, i64_w, i32_w]
  rfl
 refine pure_ (i := 4) (N := some 7) (v := ?_) (a' := ?_) #[true, false, false, false, true, false, false, false, false, false] rfl rfl (any_of HT_.out (by kernel_rfl)) (fun _ _ _ h => h) (Or.inl ⟨by rfl, ?_⟩) ?_ ?_
 rotate_left
 ·intro w'
  go_simp
  with_reducible rfl
 rotate_left
 ·simp only [Act.put, sA_, sZ_, sS_, i64_w, i32_w]
  rfl
 refine take_ (i := 1) (N := some 4) (v := ?_) (a' := ?_) #[true, true, false, false, true, false, false, false, false, false] rfl rfl (yaf_ HT_.out HW_.out (by kernel_rfl)) (fun _ _ _ h => h) (Or.inl ⟨by rfl, ?_⟩) hHeld ?_ ?_
 rotate_left
 ·rintro w' ⟨s0, s1, s2, s3, s4⟩
  go_simp
  with_reducible rfl
 rotate_left
 ·simp only [Act.put, sA_, sZ_, sS_, i64_w, i32_w]
  rfl
 refine take_ (i := 5) (N := some 8) (v := ?_) (a' := ?_) #[true, true, false, false, true, true, false, false, false, false] rfl rfl (yaf_ HT_.out HW_.out (by kernel_rfl)) (fun _ _ _ h => h) (Or.inl ⟨by rfl, ?_⟩) hHeld ?_ ?_
 rotate_left
 ·rintro w' ⟨s0, s1, s2, s3, s4⟩
  go_simp
  with_reducible rfl
 rotate_left
 ·simp only [Act.put, sA_, sZ_, sS_, i64_w, i32_w]
  rfl
 refine one_ (i := 2) (N := some 5) #[true, true, true, false, true, true, false, false, false, false] rfl rfl (one_of HT_.out (by kernel_rfl)) (by decide) (fun K hK => ?_)
 refine goes_ Try.func26 (by kernel_rfl) rfl #[.agg #[.int .i64 a0_1, .slice A0_2 l0_2.length c0_2]] (by rfl) rfl rfl (by (try simp only [List.map_toArray, List.map_cons, List.map_nil]); first | done | rfl | (simp only [List.length_drop, List.length_take]; rfl)) ?_
 with_reducible refine (soritesref06_Flat.calls k a0_1 (fun k_ => k_ < w.heap.size) _ _ l0_2 t449 _ ?side1 A2.out).mono ?_
 (case side1 => exact Kd.V_mk HC0_2.out (Kd.F_below (Kd.C_F k24_heap HR0_2.out) (by repeat (first | (with_reducible first | exact HB.out | apply bA_ | apply bN_ | apply bD_ | refine bS_ ?_ GE448.out) | exact HB.out))))
 rintro e w6 ⟨v450, rfl, ho0, hb⟩
 refine ⟨_, rfl, ?_⟩
 have n0_ := Az_.mk (Kd.N_lower (Kd.N_mono (ok' := fun k_ => k_ ≠ gb448) ho0 (fun k_ hk_ => Or.elim hk_ (fun hs_ => fun e_ => Nat.not_le.2 hs_ (by rw [e_]; exact GW448.out)) (fun hn_ => (Kd.freshB (g := gb448) (o := .cells #[.bool a0_0, .int .i64 a0_1, .slice A0_2 l0_2.length c0_2, .int .i64 a0_3, .slice A0_4 l0_4.length c0_4] 81 (0, 0)) (by (with_reducible repeat (first | refine kN_ ?_ _ | refine kD_ ?_ | refine kA_ ?_ _)); exact BK448.out) k_ hn_)))) (bZ_ (by repeat (first | (with_reducible first | exact HB.out | apply bA_ | apply bN_ | apply bD_ | refine bS_ ?_ GE448.out) | exact HB.out))))
 have n1_ := Az_.mk (kB_ (g := gb448) (o := .cells #[.bool a0_0, .int .i64 a0_1, .slice A0_2 l0_2.length c0_2, .int .i64 a0_3, .slice A0_4 l0_4.length c0_4] 81 (0, 0)) (by (with_reducible repeat (first | refine kN_ ?_ _ | refine kD_ ?_ | refine kA_ ?_ _)); exact BK448.out) hb)
 have n2_ := Az_.mk (bT_ (by repeat (first | (with_reducible first | exact HB.out | apply bA_ | apply bN_ | apply bD_ | refine bS_ ?_ GE448.out) | exact HB.out)) hb)
 clear BK448
 clear HB
 have HO451 := n0_
 have BK448 := n1_
 have HB := n2_
 clear n0_ n1_ n2_
 (try clear hb)
 (try clear hb2)
 (try clear hk)
 (try clear hi)
 (try clear ho0)
 obtain ⟨Ao7, co7, eo7⟩ := Kd.N_slice HO451.out
 (first | subst eo7 | (injection eo7 with f1_ f2_ f3_; have f4_ := f1_.symm; have f5_ := f3_.symm; clear f1_ f2_ f3_; subst f4_; subst f5_))
 refine hK.out _ _ ⟨(yaa_ BK448.out 0).trans rfl, (yaa_ BK448.out 1).trans rfl, (yaa_ BK448.out 2).trans rfl, (yaa_ BK448.out 3).trans rfl, (yaa_ BK448.out 4).trans rfl⟩ (fun hHeld => ?_)
 clear hK K
 refine norm_ (a' := ?_) ?_ ?_
 rotate_left
 ·show Act.put _ (some 5) _ = _
  simp only [Act.put, sA_, sZ_, sS_, i64_w, i32_w]
  rfl
 refine pure_ (i := 3) (N := some 6) (v := ?_) (a' := ?_) #[true, true, true, true, true, true, false, false, false, false] rfl rfl (any_of HT_.out (by kernel_rfl)) (fun _ _ _ h => h) (Or.inl ⟨by rfl, ?_⟩) ?_ ?_
 rotate_left
 ·intro w'
  go_simp
  with_reducible rfl
 rotate_left
 ·simp only [Act.put, sA_, sZ_, sS_, i64_w, i32_w]
  rfl
 refine one_ (i := 6) (N := some 9) #[true, true, true, true, true, true, true, false, false, false] rfl rfl (one_of HT_.out (by kernel_rfl)) (by decide) (fun K hK => ?_)
 refine goes_ Try.func26 (by kernel_rfl) rfl #[.agg #[.int .i64 a0_3, .slice A0_4 l0_4.length c0_4]] (by rfl) rfl rfl (by (try simp only [List.map_toArray, List.map_cons, List.map_nil]); first | done | rfl | (simp only [List.length_drop, List.length_take]; rfl)) ?_
 with_reducible refine (soritesref06_Flat.calls k a0_3 (fun k_ => k_ < w.heap.size) _ _ l0_4 t452 _ ?side1 A3.out).mono ?_
 (case side1 => exact Kd.V_mk HC0_4.out (Kd.F_below (Kd.C_F k24_heap HR0_4.out) (by repeat (first | (with_reducible first | exact HB.out | apply bA_ | apply bN_ | apply bD_ | refine bS_ ?_ GE448.out) | exact HB.out))))
 rintro e w8 ⟨v453, rfl, ho0, hb⟩
 refine ⟨_, rfl, ?_⟩
 have n0_ := Az_.mk (Kd.N_elder' (by (with_reducible repeat (first | apply Kd.N_alloc | apply Kd.N_drewN | apply Kd.N_drew)); exact HO451.out) (Kd.N_base ho0) hb)
 have n1_ := Az_.mk (Kd.N_lower (Kd.N_mono (ok' := fun k_ => some k_ ≠ (.slice Ao7 t449.length co7 : Value).ownBlock ∧ k_ ≠ gb448) ho0 (fun k_ hk_ => ⟨Or.elim hk_ (fun hs_ => fun e_ => Nat.not_le.2 hs_ (Kd.N_base HO451.out k_ e_.symm)) (fun hn_ => (Kd.fresh' (Kd.N_lt (by (with_reducible repeat (first | apply Kd.N_alloc | apply Kd.N_drewN | apply Kd.N_drew)); exact HO451.out)) k_ hn_)), Or.elim hk_ (fun hs_ => fun e_ => Nat.not_le.2 hs_ (by rw [e_]; exact GW448.out)) (fun hn_ => (Kd.freshB (g := gb448) (o := .cells #[.bool a0_0, .int .i64 a0_1, .slice A0_2 l0_2.length c0_2, .int .i64 a0_3, .slice A0_4 l0_4.length c0_4] 81 (0, 0)) (by (with_reducible repeat (first | refine kN_ ?_ _ | refine kD_ ?_ | refine kA_ ?_ _)); exact BK448.out) k_ hn_))⟩)) (bZ_ (by repeat (first | (with_reducible first | exact HB.out | apply bA_ | apply bN_ | apply bD_ | refine bS_ ?_ GE448.out) | exact HB.out))))
 have n2_ := Az_.mk (kB_ (g := gb448) (o := .cells #[.bool a0_0, .int .i64 a0_1, .slice A0_2 l0_2.length c0_2, .int .i64 a0_3, .slice A0_4 l0_4.length c0_4] 81 (0, 0)) (by (with_reducible repeat (first | refine kN_ ?_ _ | refine kD_ ?_ | refine kA_ ?_ _)); exact BK448.out) hb)
 have n3_ := Az_.mk (bT_ (by repeat (first | (with_reducible first | exact HB.out | apply bA_ | apply bN_ | apply bD_ | refine bS_ ?_ GE448.out) | exact HB.out)) hb)
 clear HO451
 clear BK448
 clear HB
 have HO451 := n0_
 have HO454 := n1_
 have BK448 := n2_
 have HB := n3_
 clear n0_ n1_ n2_ n3_
 (try clear hb)
 (try clear hb2)
 (try clear hk)
 (try clear hi)
 (try clear ho0)
 obtain ⟨Ao9, co9, eo9⟩ := Kd.N_slice HO454.out
 (first | subst eo9 | (injection eo9 with f1_ f2_ f3_; have f4_ := f1_.symm; have f5_ := f3_.symm; clear f1_ f2_ f3_; subst f4_; subst f5_))
 refine hK.out _ _ ⟨(yaa_ BK448.out 0).trans rfl, (yaa_ BK448.out 1).trans rfl, (yaa_ BK448.out 2).trans rfl, (yaa_ BK448.out 3).trans rfl, (yaa_ BK448.out 4).trans rfl⟩ (fun hHeld => ?_)
 clear hK K
 refine norm_ (a' := ?_) ?_ ?_
 rotate_left
 ·show Act.put _ (some 9) _ = _
  simp only [Act.put, sA_, sZ_, sS_, i64_w, i32_w]
  rfl
 refine pure_ (i := 7) (N := some 10) (v := ?_) (a' := ?_) #[true, true, true, true, true, true, true, true, false, false] rfl rfl (any_of HT_.out (by kernel_rfl)) (fun _ _ _ h => h) (Or.inl ⟨by rfl, ?_⟩) ?_ ?_
 rotate_left
 ·intro w'
  go_simp
  with_reducible rfl
 rotate_left
 ·simp only [Act.put, sA_, sZ_, sS_, i64_w, i32_w]
  rfl
 refine pure_ (i := 8) (N := some 11) (v := ?_) (a' := ?_) #[true, true, true, true, true, true, true, true, true, false] rfl rfl (any_of HT_.out (by kernel_rfl)) (fun _ _ _ h => h) (Or.inl ⟨by rfl, ?_⟩) ?_ ?_
 rotate_left
 ·intro w'
  go_simp
  with_reducible rfl
 rotate_left
 ·simp only [Act.put, sA_, sZ_, sS_, i64_w, i32_w]
  rfl
 refine pure_ (i := 9) (N := some 2) (v := ?_) (a' := ?_) #[true, true, true, true, true, true, true, true, true, true] rfl rfl (any_of HT_.out (by kernel_rfl)) (fun _ _ _ h => h) (Or.inl ⟨by rfl, ?_⟩) ?_ ?_
 rotate_left
 ·intro w'
  go_simp
  with_reducible rfl
 rotate_left
 ·simp only [Act.put, sA_, sZ_, sS_, i64_w, i32_w]
  rfl
 refine done_ (done_of HT_.out (by kernel_rfl)) ?_
 try go_wp2
 go_ret
 exact ⟨by first | rfl | (simp [yad_, yac_] <;> rfl) | (simp [*, yad_, yac_] <;> rfl), by repeat (first | (with_reducible first | exact HB.out | apply bA_ | apply bN_ | apply bD_ | refine bS_ ?_ GE448.out) | exact HB.out)⟩
end
section
attribute [local go_sem] max2_int min2_int max_two min_two yal_ yak_ max_four min_four
mutual
def soritesref14_Looked.l0 : Nat → List (S81) → Int → Int → Option (List Int)
 | 0, _, _, _ => none
 | k + 1, x0, x3, x4 => if x4 < (x0.length : Int) then (if 0 ≤ x4 then (if (rd_T81 x0 x4).f0 = true then ((soritesref14_weight.f k ((rd_T81 x0 x4).f0) ((rd_T81 x0 x4).f1.f0) ((rd_T81 x0 x4).f1.f1) ((rd_T81 x0 x4).f2.f0) ((rd_T81 x0 x4).f2.f1)).bind fun t457 => (if t457 > x3 then ((soritesref14_weight.f k ((rd_T81 x0 x4).f0) ((rd_T81 x0 x4).f1.f0) ((rd_T81 x0 x4).f1.f1) ((rd_T81 x0 x4).f2.f0) ((rd_T81 x0 x4).f2.f1)).bind fun t459 => (soritesref14_Looked.l0 k x0 t459 (wrap64 (x4 + 1)))) else (soritesref14_Looked.l0 k x0 x3 (wrap64 (x4 + 1))))) else (soritesref14_Looked.l0 k x0 x3 (wrap64 (x4 + 1)))) else (none)) else (soritesref14_Looked.l1 k x0 x3 ([] : List Int) 0)
def soritesref14_Looked.l1 : Nat → List (S81) → Int → List Int → Int → Option (List Int)
 | 0, _, _, _, _ => none
 | k + 1, x0, x3, x5, x6 => if x6 < (x0.length : Int) then (if x3 > 0 then (if 0 ≤ x6 then (if (rd_T81 x0 x6).f0 = true then ((soritesref14_weight.f k ((rd_T81 x0 x6).f0) ((rd_T81 x0 x6).f1.f0) ((rd_T81 x0 x6).f1.f1) ((rd_T81 x0 x6).f2.f0) ((rd_T81 x0 x6).f2.f1)).bind fun t462 => (soritesref14_Looked.j2 k x0 x3 x5 x6 (t462 == x3))) else (soritesref14_Looked.j2 k x0 x3 x5 x6 false)) else (none)) else (soritesref14_Looked.j2 k x0 x3 x5 x6 false)) else (some x5)
def soritesref14_Looked.j2 : Nat → List (S81) → Int → List Int → Int → Bool → Option (List Int)
 | 0, _, _, _, _, _ => none
 | k + 1, x0, x3, x5, x6, x55 => if x55 = true then (some (([x6] : List Int))) else (if x3 = 0 then ((soritesref14_Greatest.f k x0 x6).bind fun t466 => (if t466 = true then (if x5.length < 17592186044416 then (soritesref14_Looked.l1 k x0 x3 (x5 ++ [x6]) (wrap64 (x6 + 1))) else (none)) else (soritesref14_Looked.l1 k x0 x3 x5 (wrap64 (x6 + 1))))) else (soritesref14_Looked.l1 k x0 x3 x5 (wrap64 (x6 + 1))))
end
def soritesref14_Looked.f (k : Nat) (l0 : List (S81)) : Option (List Int) := soritesref14_Looked.l0 k l0 0 0
set_option maxHeartbeats 8000000 in
set_option maxRecDepth 100000 in
theorem soritesref14_Looked.calls (k : Nat) (A0 : Option Addr) (c0 : Nat) (l0 : List (S81)) (r : List Int) (w : World) (hr0 : Kd.C k81 w A0 l0.length l0) (hc0 : l0.length ≤ c0) (h : soritesref14_Looked.f k l0 = some r) :
  Calls Try.prog 61 #[.slice A0 l0.length c0] w fun e w' => ∃ v0_ : Value, e = .returned (v0_) ∧ Kd.R (Kd.int .i64) 3 w' w.heap.size (fun _ => True) v0_ r ∧ Below w.heap.size w w' := by
 have hu81 := Try.underlying81
 have HR0 := Az_.mk hr0
 have HC0 := Az_.mk hc0
 clear hr0 hc0
 have HB := Az_.mk (Below.refl w.heap.size w)
 have H : (soritesref14_Looked.l0 k l0 0 0) = some r := h
 clear h
 have H' := Az_.mk H
 clear H
 go_enter Try.func61, Try.ntmps61
 go_wp2
 go_loopg [3, 4] k (fun kq v3 v4 w' => ∃ (x3_1 : Int) (x4_1 : Int), v3 = .int .i64 x3_1 ∧ v4 = .int .i64 x4_1 ∧ Az_ (soritesref14_Looked.l0 kq l0 x3_1 x4_1 = some r) ∧ Az_ (kq ≤ k) ∧ Az_ (Below w.heap.size w w'))
 case atStart => exact ⟨(0), (0), (by first | rfl | (simp; done) | (simp [*]; done)), (by first | rfl | (simp; done) | (simp [*]; done)), H', ⟨Nat.le_refl _⟩, ⟨by repeat (first | (with_reducible first | exact HB.out | apply bA_ | apply bN_ | apply bD_) | exact HB.out)⟩⟩
 case round =>
  clear H'
  obtain ⟨x3_1, x4_1, rfl, rfl, HA, HK1, HB⟩ := hrel
  cases gk with
  | zero => exact absurd HA.out (by simp [soritesref14_Looked.l0])
  | succ k1 =>
   have H := HA.out
   clear HA
   simp only [soritesref14_Looked.l0] at H
   by_cases c2 : x4_1 < (l0.length : Int)
   ·rw [if_pos c2] at H
    have c2b0 : decide (x4_1 < (l0.length : Int)) = true := decide_eq_true c2
    clear c2
    by_cases c3 : 0 ≤ x4_1
    ·rw [if_pos c3] at H
     have c3b0 : decide (0 ≤ x4_1) = true := decide_eq_true c3
     clear c3
     obtain ⟨bq4, hbq4⟩ : ∃ b_ : Bool, b_ = ((rd_T81 l0 x4_1).f0) := ⟨_, rfl⟩
     replace H : (if bq4 = true then ((soritesref14_weight.f k1 (bq4) ((rd_T81 l0 x4_1).f1.f0) ((rd_T81 l0 x4_1).f1.f1) ((rd_T81 l0 x4_1).f2.f0) ((rd_T81 l0 x4_1).f2.f1)).bind fun t457 => (if t457 > x3_1 then ((soritesref14_weight.f k1 (bq4) ((rd_T81 l0 x4_1).f1.f0) ((rd_T81 l0 x4_1).f1.f1) ((rd_T81 l0 x4_1).f2.f0) ((rd_T81 l0 x4_1).f2.f1)).bind fun t459 => (soritesref14_Looked.l0 k1 l0 t459 (wrap64 (x4_1 + 1)))) else (soritesref14_Looked.l0 k1 l0 x3_1 (wrap64 (x4_1 + 1))))) else (soritesref14_Looked.l0 k1 l0 x3_1 (wrap64 (x4_1 + 1)))) = some r := by rw [← hbq4] at H; exact H
     have Nbq4 := Az_.mk hbq4
     clear hbq4
     by_cases c5 : bq4 = true
     ·subst c5
      have H1 : ((soritesref14_weight.f k1 (true) ((rd_T81 l0 x4_1).f1.f0) ((rd_T81 l0 x4_1).f1.f1) ((rd_T81 l0 x4_1).f2.f0) ((rd_T81 l0 x4_1).f2.f1)).bind fun t457 => (if t457 > x3_1 then ((soritesref14_weight.f k1 (true) ((rd_T81 l0 x4_1).f1.f0) ((rd_T81 l0 x4_1).f1.f1) ((rd_T81 l0 x4_1).f2.f0) ((rd_T81 l0 x4_1).f2.f1)).bind fun t459 => (soritesref14_Looked.l0 k1 l0 t459 (wrap64 (x4_1 + 1)))) else (soritesref14_Looked.l0 k1 l0 x3_1 (wrap64 (x4_1 + 1))))) = some r := by rw [if_pos rfl] at H; exact H
      clear H
      have H := H1
      clear H1
      replace H := Option.bind_eq_some_iff.mp H
      obtain ⟨t457, A60, H⟩ := H
      replace H : (if t457 > x3_1 then ((soritesref14_weight.f k1 (true) ((rd_T81 l0 x4_1).f1.f0) ((rd_T81 l0 x4_1).f1.f1) ((rd_T81 l0 x4_1).f2.f0) ((rd_T81 l0 x4_1).f2.f1)).bind fun t459 => (soritesref14_Looked.l0 k1 l0 t459 (wrap64 (x4_1 + 1)))) else (soritesref14_Looked.l0 k1 l0 x3_1 (wrap64 (x4_1 + 1)))) = some r := H
      have A6 := Az_.mk A60
      clear A60
      by_cases c7 : t457 > x3_1
      ·rw [if_pos c7] at H
       have c7b0 : decide (x3_1 < t457) = true := decide_eq_true c7
       clear c7
       replace H := Option.bind_eq_some_iff.mp H
       obtain ⟨t459, A80, H⟩ := H
       replace H : (soritesref14_Looked.l0 k1 l0 t459 (wrap64 (x4_1 + 1))) = some r := H
       have A8 := Az_.mk A80
       clear A80
       have H' := Az_.mk H
       clear H
       have p455 : 0 ≤ (x4_1 : Int) := of_decide_eq_true (by first | (with_reducible assumption) | assumption)
       have q455 : x4_1 < (l0.length : Int) := of_decide_eq_true (by first | (with_reducible assumption) | assumption)
       obtain ⟨ad455, A455_2, c455_2, A455_4, c455_4, e455, hx455_0, hx455_1, hx455_2, hx455_3, hx455_4, hl455_2, hi455_2, hl455_4, hi455_4⟩ := at_T81 HR0.out x4_1 p455 q455
       (try rw [← Nbq4.out] at hx455_0)
       cases e455
       replace hx455_0 := (HB.out.cell (World.block_lt_of_cell? w _ hx455_0)).trans hx455_0
       replace hx455_1 := (HB.out.cell (World.block_lt_of_cell? w _ hx455_1)).trans hx455_1
       replace hx455_2 := (HB.out.cell (World.block_lt_of_cell? w _ hx455_2)).trans hx455_2
       replace hx455_3 := (HB.out.cell (World.block_lt_of_cell? w _ hx455_3)).trans hx455_3
       replace hx455_4 := (HB.out.cell (World.block_lt_of_cell? w _ hx455_4)).trans hx455_4
       have HR455_2 := Az_.mk hi455_2
       have HC455_2 := Az_.mk hl455_2
       clear hi455_2 hl455_2
       have HR455_4 := Az_.mk hi455_4
       have HC455_4 := Az_.mk hl455_4
       clear hi455_4 hl455_4
       replace p455 := eq_true p455
       replace q455 := eq_true q455
       have p456 : 0 ≤ (x4_1 : Int) := of_decide_eq_true (by first | (with_reducible assumption) | assumption)
       have q456 : x4_1 < (l0.length : Int) := of_decide_eq_true (by first | (with_reducible assumption) | assumption)
       obtain ⟨ad456, A456_2, c456_2, A456_4, c456_4, e456, hx456_0, hx456_1, hx456_2, hx456_3, hx456_4, hl456_2, hi456_2, hl456_4, hi456_4⟩ := at_T81 HR0.out x4_1 p456 q456
       (try rw [← Nbq4.out] at hx456_0)
       obtain rfl : ad455 = ad456 := (by injection e456)
       replace hx456_0 := (HB.out.cell (World.block_lt_of_cell? w _ hx456_0)).trans hx456_0
       replace hx456_1 := (HB.out.cell (World.block_lt_of_cell? w _ hx456_1)).trans hx456_1
       replace hx456_2 := (HB.out.cell (World.block_lt_of_cell? w _ hx456_2)).trans hx456_2
       replace hx456_3 := (HB.out.cell (World.block_lt_of_cell? w _ hx456_3)).trans hx456_3
       replace hx456_4 := (HB.out.cell (World.block_lt_of_cell? w _ hx456_4)).trans hx456_4
       have HR456_2 := Az_.mk hi456_2
       have HC456_2 := Az_.mk hl456_2
       clear hi456_2 hl456_2
       have HR456_4 := Az_.mk hi456_4
       have HC456_4 := Az_.mk hl456_4
       clear hi456_4 hl456_4
       replace p456 := eq_true p456
       replace q456 := eq_true q456
       have ea_ := Option.some.inj (hx455_2.symm.trans hx456_2)
       injection ea_ with ea_ en_ ec_
       subst ea_
       subst ec_
       clear en_
       have ea_ := Option.some.inj (hx455_4.symm.trans hx456_4)
       injection ea_ with ea_ en_ ec_
       subst ea_
       subst ec_
       clear en_
       go_wp2_with (first | (go_at_call 89; (with_reducible refine (soritesref14_weight.calls k1 true ((rd_T81 l0 x4_1).f1.f0) _ _ ((rd_T81 l0 x4_1).f1.f1) ((rd_T81 l0 x4_1).f2.f0) _ _ ((rd_T81 l0 x4_1).f2.f1) t457 _ ?side1 ?side2 ?side3 ?side4 A6.out).mono ?_); (case side1 => repeat (first | exact (Kd.C_below HR456_2.out HB.out) | (with_reducible refine Kd.C_alloc ?_ _) | (with_reducible refine Kd.C_drewN ?_ _) | (with_reducible refine Kd.C_drew ?_))); (case side2 => exact HC456_2.out); (case side3 => repeat (first | exact (Kd.C_below HR456_4.out HB.out) | (with_reducible refine Kd.C_alloc ?_ _) | (with_reducible refine Kd.C_drewN ?_ _) | (with_reducible refine Kd.C_drew ?_))); (case side4 => exact HC456_4.out); rintro e w9 ⟨rfl, hb⟩; have n0_ := Az_.mk (bT_ (by repeat (first | (with_reducible first | exact HB.out | apply bA_ | apply bN_ | apply bD_) | exact HB.out)) hb); clear HB; have HB := n0_; clear n0_; (try clear hb); (try clear hb2); (try clear hk); (try clear hi); have p458 : 0 ≤ (x4_1 : Int) := of_decide_eq_true (by first | (with_reducible assumption) | assumption); have q458 : x4_1 < (l0.length : Int) := of_decide_eq_true (by first | (with_reducible assumption) | assumption); obtain ⟨ad458, A458_2, c458_2, A458_4, c458_4, e458, hx458_0, hx458_1, hx458_2, hx458_3, hx458_4, hl458_2, hi458_2, hl458_4, hi458_4⟩ := at_T81 HR0.out x4_1 p458 q458; (try rw [← Nbq4.out] at hx458_0); obtain rfl : ad455 = ad458 := (by injection e458); replace hx458_0 := (HB.out.cell (World.block_lt_of_cell? w _ hx458_0)).trans hx458_0; replace hx458_1 := (HB.out.cell (World.block_lt_of_cell? w _ hx458_1)).trans hx458_1; replace hx458_2 := (HB.out.cell (World.block_lt_of_cell? w _ hx458_2)).trans hx458_2; replace hx458_3 := (HB.out.cell (World.block_lt_of_cell? w _ hx458_3)).trans hx458_3; replace hx458_4 := (HB.out.cell (World.block_lt_of_cell? w _ hx458_4)).trans hx458_4; have HR458_2 := Az_.mk hi458_2; have HC458_2 := Az_.mk hl458_2; clear hi458_2 hl458_2; have HR458_4 := Az_.mk hi458_4; have HC458_4 := Az_.mk hl458_4; clear hi458_4 hl458_4; replace p458 := eq_true p458; replace q458 := eq_true q458) | ((with_reducible refine yae_ (f := 89) rfl ?_); refine goesL_ (some 31) rfl rfl Try.func89 (by kernel_rfl) rfl #[.agg #[.bool true, .int .i64 ((rd_T81 l0 x4_1).f1.f0), .slice A458_2 ((rd_T81 l0 x4_1).f1.f1).length c458_2, .int .i64 ((rd_T81 l0 x4_1).f2.f0), .slice A458_4 ((rd_T81 l0 x4_1).f2.f1).length c458_4]] rfl (by (try simp only [List.map_toArray, List.map_cons, List.map_nil]); first | done | rfl | (simp only [List.length_drop, List.length_take]; rfl)) ?_; (with_reducible refine (soritesref14_weight.calls k1 true ((rd_T81 l0 x4_1).f1.f0) _ _ ((rd_T81 l0 x4_1).f1.f1) ((rd_T81 l0 x4_1).f2.f0) _ _ ((rd_T81 l0 x4_1).f2.f1) t459 _ ?side1 ?side2 ?side3 ?side4 A8.out).mono ?_); (case side1 => repeat (first | exact (Kd.C_below HR458_2.out HB.out) | (with_reducible refine Kd.C_alloc ?_ _) | (with_reducible refine Kd.C_drewN ?_ _) | (with_reducible refine Kd.C_drew ?_))); (case side2 => exact HC458_2.out); (case side3 => repeat (first | exact (Kd.C_below HR458_4.out HB.out) | (with_reducible refine Kd.C_alloc ?_ _) | (with_reducible refine Kd.C_drewN ?_ _) | (with_reducible refine Kd.C_drew ?_))); (case side4 => exact HC458_4.out); rintro e w10 ⟨rfl, hb⟩; refine ⟨_, rfl, ?_⟩; have n0_ := Az_.mk (bT_ (by repeat (first | (with_reducible first | exact HB.out | apply bA_ | apply bN_ | apply bD_) | exact HB.out)) hb); clear HB; have HB := n0_; clear n0_; (try clear hb); (try clear hb2); (try clear hk); (try clear hi)))
       go_roundg k1
       case measure => have := HK1.out; omega
       case rel => exact ⟨(t459), (wrap64 (x4_1 + 1)), (by first | rfl | (simp; done) | (simp [*]; done)), (by first | rfl | (simp; done) | (simp [*]; done)), H', ⟨by have := HK1.out; omega⟩, ⟨by repeat (first | (with_reducible first | exact HB.out | apply bA_ | apply bN_ | apply bD_) | exact HB.out)⟩⟩
      ·rw [if_neg c7] at H
       have c7b0 : decide (x3_1 < t457) = false := decide_eq_false c7
       clear c7
       have H' := Az_.mk H
       clear H
       have p455 : 0 ≤ (x4_1 : Int) := of_decide_eq_true (by first | (with_reducible assumption) | assumption)
       have q455 : x4_1 < (l0.length : Int) := of_decide_eq_true (by first | (with_reducible assumption) | assumption)
       obtain ⟨ad455, A455_2, c455_2, A455_4, c455_4, e455, hx455_0, hx455_1, hx455_2, hx455_3, hx455_4, hl455_2, hi455_2, hl455_4, hi455_4⟩ := at_T81 HR0.out x4_1 p455 q455
       (try rw [← Nbq4.out] at hx455_0)
       cases e455
       replace hx455_0 := (HB.out.cell (World.block_lt_of_cell? w _ hx455_0)).trans hx455_0
       replace hx455_1 := (HB.out.cell (World.block_lt_of_cell? w _ hx455_1)).trans hx455_1
       replace hx455_2 := (HB.out.cell (World.block_lt_of_cell? w _ hx455_2)).trans hx455_2
       replace hx455_3 := (HB.out.cell (World.block_lt_of_cell? w _ hx455_3)).trans hx455_3
       replace hx455_4 := (HB.out.cell (World.block_lt_of_cell? w _ hx455_4)).trans hx455_4
       have HR455_2 := Az_.mk hi455_2
       have HC455_2 := Az_.mk hl455_2
       clear hi455_2 hl455_2
       have HR455_4 := Az_.mk hi455_4
       have HC455_4 := Az_.mk hl455_4
       clear hi455_4 hl455_4
       replace p455 := eq_true p455
       replace q455 := eq_true q455
       have p456 : 0 ≤ (x4_1 : Int) := of_decide_eq_true (by first | (with_reducible assumption) | assumption)
       have q456 : x4_1 < (l0.length : Int) := of_decide_eq_true (by first | (with_reducible assumption) | assumption)
       obtain ⟨ad456, A456_2, c456_2, A456_4, c456_4, e456, hx456_0, hx456_1, hx456_2, hx456_3, hx456_4, hl456_2, hi456_2, hl456_4, hi456_4⟩ := at_T81 HR0.out x4_1 p456 q456
       (try rw [← Nbq4.out] at hx456_0)
       obtain rfl : ad455 = ad456 := (by injection e456)
       replace hx456_0 := (HB.out.cell (World.block_lt_of_cell? w _ hx456_0)).trans hx456_0
       replace hx456_1 := (HB.out.cell (World.block_lt_of_cell? w _ hx456_1)).trans hx456_1
       replace hx456_2 := (HB.out.cell (World.block_lt_of_cell? w _ hx456_2)).trans hx456_2
       replace hx456_3 := (HB.out.cell (World.block_lt_of_cell? w _ hx456_3)).trans hx456_3
       replace hx456_4 := (HB.out.cell (World.block_lt_of_cell? w _ hx456_4)).trans hx456_4
       have HR456_2 := Az_.mk hi456_2
       have HC456_2 := Az_.mk hl456_2
       clear hi456_2 hl456_2
       have HR456_4 := Az_.mk hi456_4
       have HC456_4 := Az_.mk hl456_4
       clear hi456_4 hl456_4
       replace p456 := eq_true p456
       replace q456 := eq_true q456
       have ea_ := Option.some.inj (hx455_2.symm.trans hx456_2)
       injection ea_ with ea_ en_ ec_
       subst ea_
       subst ec_
       clear en_
       have ea_ := Option.some.inj (hx455_4.symm.trans hx456_4)
       injection ea_ with ea_ en_ ec_
       subst ea_
       subst ec_
       clear en_
       go_wp2_with (first | (go_at_call 89; (with_reducible refine (soritesref14_weight.calls k1 true ((rd_T81 l0 x4_1).f1.f0) _ _ ((rd_T81 l0 x4_1).f1.f1) ((rd_T81 l0 x4_1).f2.f0) _ _ ((rd_T81 l0 x4_1).f2.f1) t457 _ ?side1 ?side2 ?side3 ?side4 A6.out).mono ?_); (case side1 => repeat (first | exact (Kd.C_below HR456_2.out HB.out) | (with_reducible refine Kd.C_alloc ?_ _) | (with_reducible refine Kd.C_drewN ?_ _) | (with_reducible refine Kd.C_drew ?_))); (case side2 => exact HC456_2.out); (case side3 => repeat (first | exact (Kd.C_below HR456_4.out HB.out) | (with_reducible refine Kd.C_alloc ?_ _) | (with_reducible refine Kd.C_drewN ?_ _) | (with_reducible refine Kd.C_drew ?_))); (case side4 => exact HC456_4.out); rintro e w11 ⟨rfl, hb⟩; have n0_ := Az_.mk (bT_ (by repeat (first | (with_reducible first | exact HB.out | apply bA_ | apply bN_ | apply bD_) | exact HB.out)) hb); clear HB; have HB := n0_; clear n0_; (try clear hb); (try clear hb2); (try clear hk); (try clear hi)))
       go_roundg k1
       case measure => have := HK1.out; omega
       case rel => exact ⟨(x3_1), (wrap64 (x4_1 + 1)), (by first | rfl | (simp; done) | (simp [*]; done)), (by first | rfl | (simp; done) | (simp [*]; done)), H', ⟨by have := HK1.out; omega⟩, ⟨by repeat (first | (with_reducible first | exact HB.out | apply bA_ | apply bN_ | apply bD_) | exact HB.out)⟩⟩
     ·replace c5 := Bool.eq_false_iff.mpr c5
      subst c5
      have H1 : (soritesref14_Looked.l0 k1 l0 x3_1 (wrap64 (x4_1 + 1))) = some r := by rw [if_neg (show ¬ (false = true) by decide)] at H; exact H
      clear H
      have H := H1
      clear H1
      have H' := Az_.mk H
      clear H
      have p455 : 0 ≤ (x4_1 : Int) := of_decide_eq_true (by first | (with_reducible assumption) | assumption)
      have q455 : x4_1 < (l0.length : Int) := of_decide_eq_true (by first | (with_reducible assumption) | assumption)
      obtain ⟨ad455, A455_2, c455_2, A455_4, c455_4, e455, hx455_0, hx455_1, hx455_2, hx455_3, hx455_4, hl455_2, hi455_2, hl455_4, hi455_4⟩ := at_T81 HR0.out x4_1 p455 q455
      (try rw [← Nbq4.out] at hx455_0)
      cases e455
      replace hx455_0 := (HB.out.cell (World.block_lt_of_cell? w _ hx455_0)).trans hx455_0
      replace hx455_1 := (HB.out.cell (World.block_lt_of_cell? w _ hx455_1)).trans hx455_1
      replace hx455_2 := (HB.out.cell (World.block_lt_of_cell? w _ hx455_2)).trans hx455_2
      replace hx455_3 := (HB.out.cell (World.block_lt_of_cell? w _ hx455_3)).trans hx455_3
      replace hx455_4 := (HB.out.cell (World.block_lt_of_cell? w _ hx455_4)).trans hx455_4
      have HR455_2 := Az_.mk hi455_2
      have HC455_2 := Az_.mk hl455_2
      clear hi455_2 hl455_2
      have HR455_4 := Az_.mk hi455_4
      have HC455_4 := Az_.mk hl455_4
      clear hi455_4 hl455_4
      replace p455 := eq_true p455
      replace q455 := eq_true q455
      go_wp2
      go_roundg k1
      case measure => have := HK1.out; omega
      case rel => exact ⟨(x3_1), (wrap64 (x4_1 + 1)), (by first | rfl | (simp; done) | (simp [*]; done)), (by first | rfl | (simp; done) | (simp [*]; done)), H', ⟨by have := HK1.out; omega⟩, ⟨by repeat (first | (with_reducible first | exact HB.out | apply bA_ | apply bN_ | apply bD_) | exact HB.out)⟩⟩
    ·rw [if_neg c3] at H
     exact absurd H (by simp)
   ·rw [if_neg c2] at H
    have c2b0 : decide (x4_1 < (l0.length : Int)) = false := decide_eq_false c2
    clear c2
    have H' := Az_.mk H
    clear H
    go_wp2
    go_loopg [5, 6] k1 (fun kq v5 v6 w' => ∃ (x5_2 : List Int) (x6_2 : Int), v6 = .int .i64 x6_2 ∧ Az_ (soritesref14_Looked.l1 kq l0 x3_1 x5_2 x6_2 = some r) ∧ Az_ (kq ≤ k1) ∧ Az_ (Kd.R (Kd.int .i64) 3 w' w.heap.size (fun _ => True) v5 x5_2) ∧ Az_ (Below w.heap.size w w'))
    case atStart => exact ⟨(([] : List Int)), (0), (by first | rfl | (simp; done) | (simp [*]; done)), H', ⟨Nat.le_refl _⟩, ⟨by first | exact Kd.R_nil _ _ _ _ _ | exact Kd.N_nil _ _ _ _ _ | exact Kd.V_nil _ _ _ _ _ | exact Kd.Q_nil _ _ _ _ _ | exact Kd.S_nil _ _ _ _ _⟩, ⟨by repeat (first | (with_reducible first | exact HB.out | apply bA_ | apply bN_ | apply bD_) | exact HB.out)⟩⟩
    case round =>
     clear H'
     try clear c2
     try clear c2b0
     try clear p2
     try clear c3
     try clear c3b0
     try clear c4
     try clear p4
     try clear q4
     try clear hx4
     try clear c5
     try clear c6
     try clear p6
     try clear c7
     try clear c7b0
     try clear c8
     try clear hx455_0
     try clear hx455_1
     try clear hx455_2
     try clear hx455_3
     try clear hx455_4
     try clear hx456_0
     try clear hx456_1
     try clear hx456_2
     try clear hx456_3
     try clear hx456_4
     try clear hx458_0
     try clear hx458_1
     try clear hx458_2
     try clear hx458_3
     try clear hx458_4
     try clear p455
     try clear p456
     try clear p458
     try clear q455
     try clear q456
     try clear q458
     obtain ⟨x5_2, x6_2, rfl, HA, HK2, HO_5, HB⟩ := hrel
     cases gk with
     | zero => exact absurd HA.out (by simp [soritesref14_Looked.l1])
     | succ k2 =>
      have H := HA.out
      clear HA
      simp only [soritesref14_Looked.l1] at H
      by_cases c12 : x6_2 < (l0.length : Int)
      ·rw [if_pos c12] at H
       have c12b0 : decide (x6_2 < (l0.length : Int)) = true := decide_eq_true c12
       clear c12
       have HC13 := Az_.mk H
       clear H
       go_upto_region 11 with (fail)
       go_cut [55] (fun v55 wc => ∃ (kq : Nat) (x55_12 : Bool), v55 = .bool x55_12 ∧ Az_ (soritesref14_Looked.j2 kq l0 x3_1 x5_2 x6_2 x55_12 = some r) ∧ Az_ (kq ≤ k2) ∧ Az_ (Kd.R (Kd.int .i64) 3 wc w.heap.size (fun _ => True) u5 x5_2) ∧ Az_ (Below w.heap.size w wc))
       case first =>
        have H := HC13.out
        clear HC13
        by_cases c14 : x3_1 > 0
        ·rw [if_pos c14] at H
         have c14b0 : decide (0 < x3_1) = true := decide_eq_true c14
         clear c14
         (first | rw [c14b0] | (simp only [i64_w, i32_w]; rw [c14b0]) | skip)
         by_cases c15 : 0 ≤ x6_2
         ·rw [if_pos c15] at H
          have c15b0 : decide (0 ≤ x6_2) = true := decide_eq_true c15
          clear c15
          obtain ⟨bq16, hbq16⟩ : ∃ b_ : Bool, b_ = ((rd_T81 l0 x6_2).f0) := ⟨_, rfl⟩
          replace H : (if bq16 = true then ((soritesref14_weight.f k2 (bq16) ((rd_T81 l0 x6_2).f1.f0) ((rd_T81 l0 x6_2).f1.f1) ((rd_T81 l0 x6_2).f2.f0) ((rd_T81 l0 x6_2).f2.f1)).bind fun t462 => (soritesref14_Looked.j2 k2 l0 x3_1 x5_2 x6_2 (t462 == x3_1))) else (soritesref14_Looked.j2 k2 l0 x3_1 x5_2 x6_2 false)) = some r := by rw [← hbq16] at H; exact H
          have Nbq16 := Az_.mk hbq16
          clear hbq16
          by_cases c17 : bq16 = true
          ·subst c17
           have H1 : ((soritesref14_weight.f k2 (true) ((rd_T81 l0 x6_2).f1.f0) ((rd_T81 l0 x6_2).f1.f1) ((rd_T81 l0 x6_2).f2.f0) ((rd_T81 l0 x6_2).f2.f1)).bind fun t462 => (soritesref14_Looked.j2 k2 l0 x3_1 x5_2 x6_2 (t462 == x3_1))) = some r := by rw [if_pos rfl] at H; exact H
           clear H
           have H := H1
           clear H1
           replace H := Option.bind_eq_some_iff.mp H
           obtain ⟨t462, A180, H⟩ := H
           replace H : (soritesref14_Looked.j2 k2 l0 x3_1 x5_2 x6_2 (t462 == x3_1)) = some r := H
           have A18 := Az_.mk A180
           clear A180
           have H' := Az_.mk H
           clear H
           have p460 : 0 ≤ (x6_2 : Int) := of_decide_eq_true (by first | (with_reducible assumption) | assumption)
           have q460 : x6_2 < (l0.length : Int) := of_decide_eq_true (by first | (with_reducible assumption) | assumption)
           obtain ⟨ad460, A460_2, c460_2, A460_4, c460_4, e460, hx460_0, hx460_1, hx460_2, hx460_3, hx460_4, hl460_2, hi460_2, hl460_4, hi460_4⟩ := at_T81 HR0.out x6_2 p460 q460
           (try rw [← Nbq16.out] at hx460_0)
           cases e460
           replace hx460_0 := (HB.out.cell (World.block_lt_of_cell? w _ hx460_0)).trans hx460_0
           replace hx460_1 := (HB.out.cell (World.block_lt_of_cell? w _ hx460_1)).trans hx460_1
           replace hx460_2 := (HB.out.cell (World.block_lt_of_cell? w _ hx460_2)).trans hx460_2
           replace hx460_3 := (HB.out.cell (World.block_lt_of_cell? w _ hx460_3)).trans hx460_3
           replace hx460_4 := (HB.out.cell (World.block_lt_of_cell? w _ hx460_4)).trans hx460_4
           have HR460_2 := Az_.mk hi460_2
           have HC460_2 := Az_.mk hl460_2
           clear hi460_2 hl460_2
           have HR460_4 := Az_.mk hi460_4
           have HC460_4 := Az_.mk hl460_4
           clear hi460_4 hl460_4
           replace p460 := eq_true p460
           replace q460 := eq_true q460
           have p461 : 0 ≤ (x6_2 : Int) := of_decide_eq_true (by first | (with_reducible assumption) | assumption)
           have q461 : x6_2 < (l0.length : Int) := of_decide_eq_true (by first | (with_reducible assumption) | assumption)
           obtain ⟨ad461, A461_2, c461_2, A461_4, c461_4, e461, hx461_0, hx461_1, hx461_2, hx461_3, hx461_4, hl461_2, hi461_2, hl461_4, hi461_4⟩ := at_T81 HR0.out x6_2 p461 q461
           (try rw [← Nbq16.out] at hx461_0)
           obtain rfl : ad460 = ad461 := (by injection e461)
           replace hx461_0 := (HB.out.cell (World.block_lt_of_cell? w _ hx461_0)).trans hx461_0
           replace hx461_1 := (HB.out.cell (World.block_lt_of_cell? w _ hx461_1)).trans hx461_1
           replace hx461_2 := (HB.out.cell (World.block_lt_of_cell? w _ hx461_2)).trans hx461_2
           replace hx461_3 := (HB.out.cell (World.block_lt_of_cell? w _ hx461_3)).trans hx461_3
           replace hx461_4 := (HB.out.cell (World.block_lt_of_cell? w _ hx461_4)).trans hx461_4
           have HR461_2 := Az_.mk hi461_2
           have HC461_2 := Az_.mk hl461_2
           clear hi461_2 hl461_2
           have HR461_4 := Az_.mk hi461_4
           have HC461_4 := Az_.mk hl461_4
           clear hi461_4 hl461_4
           replace p461 := eq_true p461
           replace q461 := eq_true q461
           have ea_ := Option.some.inj (hx460_2.symm.trans hx461_2)
           injection ea_ with ea_ en_ ec_
           subst ea_
           subst ec_
           clear en_
           have ea_ := Option.some.inj (hx460_4.symm.trans hx461_4)
           injection ea_ with ea_ en_ ec_
           subst ea_
           subst ec_
           clear en_
           go_wp2_with (first | (go_at_call 89; (with_reducible refine (soritesref14_weight.calls k2 true ((rd_T81 l0 x6_2).f1.f0) _ _ ((rd_T81 l0 x6_2).f1.f1) ((rd_T81 l0 x6_2).f2.f0) _ _ ((rd_T81 l0 x6_2).f2.f1) t462 _ ?side1 ?side2 ?side3 ?side4 A18.out).mono ?_); (case side1 => repeat (first | exact (Kd.C_below HR461_2.out HB.out) | (with_reducible refine Kd.C_alloc ?_ _) | (with_reducible refine Kd.C_drewN ?_ _) | (with_reducible refine Kd.C_drew ?_))); (case side2 => exact HC461_2.out); (case side3 => repeat (first | exact (Kd.C_below HR461_4.out HB.out) | (with_reducible refine Kd.C_alloc ?_ _) | (with_reducible refine Kd.C_drewN ?_ _) | (with_reducible refine Kd.C_drew ?_))); (case side4 => exact HC461_4.out); rintro e w19 ⟨rfl, hb⟩; have n0_ := Az_.mk (Kd.R_below (by (with_reducible repeat (first | apply Kd.R_alloc | apply Kd.R_drewN | apply Kd.R_drew)); exact HO_5.out) hb); have n1_ := Az_.mk (bT_ (by repeat (first | (with_reducible first | exact HB.out | apply bA_ | apply bN_ | apply bD_) | exact HB.out)) hb); clear HO_5; clear HB; have HO_5 := n0_; have HB := n1_; clear n0_ n1_; (try clear hb); (try clear hb2); (try clear hk); (try clear hi)))
           go_meet
           case rel => exact ⟨_, ((t462 == x3_1)), (by first | rfl | (simp; done) | (simp [*]; done)), H', ⟨by have := HK1.out; have := HK2.out; first | omega | exact Nat.le_refl _⟩, ⟨by (with_reducible repeat (first | apply Kd.R_alloc | apply Kd.R_drewN | apply Kd.R_drew)); exact HO_5.out⟩, ⟨by repeat (first | (with_reducible first | exact HB.out | apply bA_ | apply bN_ | apply bD_) | exact HB.out)⟩⟩
          ·replace c17 := Bool.eq_false_iff.mpr c17
           subst c17
           have H1 : (soritesref14_Looked.j2 k2 l0 x3_1 x5_2 x6_2 false) = some r := by rw [if_neg (show ¬ (false = true) by decide)] at H; exact H
           clear H
           have H := H1
           clear H1
           have H' := Az_.mk H
           clear H
           have p460 : 0 ≤ (x6_2 : Int) := of_decide_eq_true (by first | (with_reducible assumption) | assumption)
           have q460 : x6_2 < (l0.length : Int) := of_decide_eq_true (by first | (with_reducible assumption) | assumption)
           obtain ⟨ad460, A460_2, c460_2, A460_4, c460_4, e460, hx460_0, hx460_1, hx460_2, hx460_3, hx460_4, hl460_2, hi460_2, hl460_4, hi460_4⟩ := at_T81 HR0.out x6_2 p460 q460
           (try rw [← Nbq16.out] at hx460_0)
           cases e460
           replace hx460_0 := (HB.out.cell (World.block_lt_of_cell? w _ hx460_0)).trans hx460_0
           replace hx460_1 := (HB.out.cell (World.block_lt_of_cell? w _ hx460_1)).trans hx460_1
           replace hx460_2 := (HB.out.cell (World.block_lt_of_cell? w _ hx460_2)).trans hx460_2
           replace hx460_3 := (HB.out.cell (World.block_lt_of_cell? w _ hx460_3)).trans hx460_3
           replace hx460_4 := (HB.out.cell (World.block_lt_of_cell? w _ hx460_4)).trans hx460_4
           have HR460_2 := Az_.mk hi460_2
           have HC460_2 := Az_.mk hl460_2
           clear hi460_2 hl460_2
           have HR460_4 := Az_.mk hi460_4
           have HC460_4 := Az_.mk hl460_4
           clear hi460_4 hl460_4
           replace p460 := eq_true p460
           replace q460 := eq_true q460
           go_wp2
           go_meet
           case rel => exact ⟨_, (false), (by first | rfl | (simp; done) | (simp [*]; done)), H', ⟨by have := HK1.out; have := HK2.out; first | omega | exact Nat.le_refl _⟩, ⟨by (with_reducible repeat (first | apply Kd.R_alloc | apply Kd.R_drewN | apply Kd.R_drew)); exact HO_5.out⟩, ⟨by repeat (first | (with_reducible first | exact HB.out | apply bA_ | apply bN_ | apply bD_) | exact HB.out)⟩⟩
         ·rw [if_neg c15] at H
          exact absurd H (by simp)
        ·rw [if_neg c14] at H
         have c14b0 : decide (0 < x3_1) = false := decide_eq_false c14
         clear c14
         (first | rw [c14b0] | (simp only [i64_w, i32_w]; rw [c14b0]) | skip)
         have H' := Az_.mk H
         clear H
         go_wp2
         go_meet
         case rel => exact ⟨_, (false), (by first | rfl | (simp; done) | (simp [*]; done)), H', ⟨by have := HK1.out; have := HK2.out; first | omega | exact Nat.le_refl _⟩, ⟨by (with_reducible repeat (first | apply Kd.R_alloc | apply Kd.R_drewN | apply Kd.R_drew)); exact HO_5.out⟩, ⟨by repeat (first | (with_reducible first | exact HB.out | apply bA_ | apply bN_ | apply bD_) | exact HB.out)⟩⟩
       case rest =>
        clear HC13
        try clear c1
        try clear q1
        try clear c2
        try clear c2b0
        try clear p2
        try clear c3
        try clear c3b0
        try clear c4
        try clear p4
        try clear q4
        try clear hx4
        try clear c5
        try clear c6
        try clear p6
        try clear c7
        try clear c7b0
        try clear c8
        try clear c12
        try clear c12b0
        try clear c14
        try clear c14b0
        try clear c15
        try clear c15b0
        try clear q16
        try clear c17
        try clear hx455_0
        try clear hx455_1
        try clear hx455_2
        try clear hx455_3
        try clear hx455_4
        try clear hx456_0
        try clear hx456_1
        try clear hx456_2
        try clear hx456_3
        try clear hx456_4
        try clear hx458_0
        try clear hx458_1
        try clear hx458_2
        try clear hx458_3
        try clear hx458_4
        try clear hx460_0
        try clear hx460_1
        try clear hx460_2
        try clear hx460_3
        try clear hx460_4
        try clear hx461_0
        try clear hx461_1
        try clear hx461_2
        try clear hx461_3
        try clear hx461_4
        try clear p2
        try clear p4
        try clear p455
        try clear p456
        try clear p458
        try clear p460
        try clear p461
        try clear p6
        try clear q4
        try clear q455
        try clear q456
        try clear q458
        try clear q460
        try clear q461
        obtain ⟨kq, x55_12, rfl, HA, HJ12, HO_5, HB⟩ := hcut
        cases kq with
        | zero => exact absurd HA.out (by simp [soritesref14_Looked.j2])
        | succ kj12 =>
         have H := HA.out
         clear HA
         simp only [soritesref14_Looked.j2] at H
         by_cases c20 : x55_12 = true
         ·subst c20
          have H1 : (some (([x6_2] : List Int))) = some r := by rw [if_pos rfl] at H; exact H
          clear H
          have H := H1
          clear H1
          obtain ⟨y463, hy463⟩ : ∃ y_ : List Int, y_ = (([x6_2] : List Int)) := ⟨_, rfl⟩
          replace H : (some y463) = some r := by first | (rw [hy463]; with_reducible exact H) | (have H2_ := (Option.bind_some _ _).symm.trans H; rw [hy463]; with_reducible exact H2_) | (have H2_ := (Option.bind_some _ _).symm.trans H; with_reducible exact H2_) | with_reducible exact H | (rw [hy463]; exact H) | exact H
          have Ny463 := Az_.mk hy463
          clear hy463
          obtain rfl := Option.some.inj H
          go_wp2_with (first | ((with_reducible refine yah_ (N := 57) rfl ?_); refine Kd.R_lit (Kd.int .i64) _ 3 ?hg (N := 57) ?hd (xs := ([x6_2] : List Int)) (inner := [.int .i64 x6_2]) (ok := fun _ => True) (okp := fun _ => True) ?hr ?hp (fun _ hk => hk) trivial (Below.refl _ _) (Nat.le_refl _) (by simp) ?_; (case hd => rfl); (case hg => rfl); (case hr => first | (go_simp; done) | (go_simp; rfl)); (case hp => exact (Reps.one (show Kd.M (Kd.int .i64) _ _ _ x6_2 [.int .i64 x6_2] from rfl) (Reps.none _ _))); intro v464 w21 ho22 hb hg_ hnew_; clear hg_ hnew_; (first | rw [← Ny463.out] at ho22 | (simp only [Int.reduceToNat] at ho22; rw [← Ny463.out] at ho22)); have n0_ := Az_.mk (Kd.R_elder' (by (with_reducible repeat (first | apply Kd.R_alloc | apply Kd.R_drewN | apply Kd.R_drew)); exact HO_5.out) (Kd.R_base ho22) hb); have n1_ := Az_.mk (Kd.R_lower (Kd.R_new' ho22 (Kd.R_lt (by (with_reducible repeat (first | apply Kd.R_alloc | apply Kd.R_drewN | apply Kd.R_drew)); exact HO_5.out))) (bZ_ (by repeat (first | (with_reducible first | exact HB.out | apply bA_ | apply bN_ | apply bD_) | exact HB.out)))); have n2_ := Az_.mk (bT_ (by repeat (first | (with_reducible first | exact HB.out | apply bA_ | apply bN_ | apply bD_) | exact HB.out)) hb); clear HO_5; clear HB; have HO_5 := n0_; have HO465 := n1_; have HB := n2_; clear n0_ n1_ n2_; clear hb ho22))
          go_ret
          exact ⟨_, by first | rfl | (simp [yad_, yac_] <;> rfl) | (simp [*, yad_, yac_] <;> rfl), by (with_reducible repeat (first | apply Kd.R_alloc | apply Kd.R_drewN | apply Kd.R_drew)); exact Kd.R_mono HO465.out (fun _ hk => trivial), by repeat (first | (with_reducible first | exact HB.out | apply bA_ | apply bN_ | apply bD_) | exact HB.out)⟩
         ·replace c20 := Bool.eq_false_iff.mpr c20
          subst c20
          have H1 : (if x3_1 = 0 then ((soritesref14_Greatest.f kj12 l0 x6_2).bind fun t466 => (if t466 = true then (if x5_2.length < 17592186044416 then (soritesref14_Looked.l1 kj12 l0 x3_1 (x5_2 ++ [x6_2]) (wrap64 (x6_2 + 1))) else (none)) else (soritesref14_Looked.l1 kj12 l0 x3_1 x5_2 (wrap64 (x6_2 + 1))))) else (soritesref14_Looked.l1 kj12 l0 x3_1 x5_2 (wrap64 (x6_2 + 1)))) = some r := by rw [if_neg (show ¬ (false = true) by decide)] at H; exact H
          clear H
          have H := H1
          clear H1
          by_cases c23 : x3_1 = 0
          ·rw [if_pos c23] at H
           have c23b0 : (x3_1 == 0) = true := beq_iff_eq.mpr c23
           have c23b1 : (x3_1 != 0) = false := bne_eq_false_iff_eq.mpr c23
           clear c23
           replace H := Option.bind_eq_some_iff.mp H
           obtain ⟨t466, A240, H⟩ := H
           replace H : (if t466 = true then (if x5_2.length < 17592186044416 then (soritesref14_Looked.l1 kj12 l0 x3_1 (x5_2 ++ [x6_2]) (wrap64 (x6_2 + 1))) else (none)) else (soritesref14_Looked.l1 kj12 l0 x3_1 x5_2 (wrap64 (x6_2 + 1)))) = some r := H
           have A24 := Az_.mk A240
           clear A240
           by_cases c25 : t466 = true
           ·subst c25
            have H1 : (if x5_2.length < 17592186044416 then (soritesref14_Looked.l1 kj12 l0 x3_1 (x5_2 ++ [x6_2]) (wrap64 (x6_2 + 1))) else (none)) = some r := by rw [if_pos rfl] at H; exact H
            clear H
            have H := H1
            clear H1
            by_cases c26 : x5_2.length < 17592186044416
            ·rw [if_pos c26] at H
             have LMc26 := Az_.mk c26
             clear c26
             obtain ⟨y467, hy467⟩ : ∃ y_ : List Int, y_ = (x5_2 ++ [x6_2]) := ⟨_, rfl⟩
             replace H : (soritesref14_Looked.l1 kj12 l0 x3_1 y467 (wrap64 (x6_2 + 1))) = some r := by first | (rw [hy467]; with_reducible exact H) | (have H2_ := (Option.bind_some _ _).symm.trans H; rw [hy467]; with_reducible exact H2_) | (have H2_ := (Option.bind_some _ _).symm.trans H; with_reducible exact H2_) | with_reducible exact H | (rw [hy467]; exact H) | exact H
             have Ny467 := Az_.mk hy467
             clear hy467
             have H' := Az_.mk H
             clear H
             go_wp2_with (first | (go_at_call 57; (with_reducible refine (soritesref14_Greatest.calls kj12 _ _ l0 x6_2 true _ ?side1 ?side2 A24.out).mono ?_); (case side1 => repeat (first | exact (Kd.C_below HR0.out HB.out) | (with_reducible refine Kd.C_alloc ?_ _) | (with_reducible refine Kd.C_drewN ?_ _) | (with_reducible refine Kd.C_drew ?_))); (case side2 => exact HC0.out); rintro e w27 ⟨rfl, hb⟩; have n0_ := Az_.mk (Kd.R_below (by (with_reducible repeat (first | apply Kd.R_alloc | apply Kd.R_drewN | apply Kd.R_drew)); exact HO_5.out) hb); have n1_ := Az_.mk (bT_ (by repeat (first | (with_reducible first | exact HB.out | apply bA_ | apply bN_ | apply bD_) | exact HB.out)) hb); clear HO_5; clear HB; have HO_5 := n0_; have HB := n1_; clear n0_ n1_; (try clear hb); (try clear hb2); (try clear hk); (try clear hi)) | ((with_reducible refine gate_builtin (b := .append) (xs := #[.tmp 65, .tmp 67]) rfl ?_); at_builtin; refine Kd.R_append (Kd.int .i64) (w0 := w) w.heap.size rfl (.tmp 65) (.tmp 67) 25 3 (.int .i64 0) 8 rfl Try.underlying25 info3 rfl (by decide) (by omega) u5 x5_2 x6_2 [.int .i64 x6_2] (fun _ => True) (fun _ => False) rfl rfl ?aP (fun _ hk => hk.elim) ?aF ?aO ?aB ?aS ?aL ?_; (case aP => exact rfl); (case aB => exact (by repeat (first | (with_reducible first | exact HB.out | apply bA_ | apply bN_ | apply bD_) | exact HB.out))); (case aF => exact (fun _ _ => trivial)); (case aO => exact (by (with_reducible repeat (first | apply Kd.R_alloc | apply Kd.R_drewN | apply Kd.R_drew)); exact HO_5.out)); (case aS => exact (bZ_ (by repeat (first | (with_reducible first | exact HB.out | apply bA_ | apply bN_ | apply bD_) | exact HB.out)))); (case aL => have := LMc26.out; omega); intro v468 w28 ho hb hg hat; rw [← Ny467.out] at ho; have n0_ := Az_.mk (hb); have n1_ := Az_.mk (ho); clear HB; clear HO_5; have HB := n0_; have HO469 := n1_; clear n0_ n1_; clear ho hb hg hat))
             go_roundg kj12
             case measure => have := HK1.out; have := HK2.out; have := HJ12.out; omega
             case rel => exact ⟨(y467), (wrap64 (x6_2 + 1)), (by first | rfl | (simp; done) | (simp [*]; done)), H', ⟨by have := HK1.out; have := HK2.out; have := HJ12.out; omega⟩, ⟨by (with_reducible repeat (first | apply Kd.R_alloc | apply Kd.R_drewN | apply Kd.R_drew)); exact HO469.out⟩, ⟨by repeat (first | (with_reducible first | exact HB.out | apply bA_ | apply bN_ | apply bD_) | exact HB.out)⟩⟩
            ·rw [if_neg c26] at H
             exact absurd H (by simp)
           ·replace c25 := Bool.eq_false_iff.mpr c25
            subst c25
            have H1 : (soritesref14_Looked.l1 kj12 l0 x3_1 x5_2 (wrap64 (x6_2 + 1))) = some r := by rw [if_neg (show ¬ (false = true) by decide)] at H; exact H
            clear H
            have H := H1
            clear H1
            have H' := Az_.mk H
            clear H
            go_wp2_with (first | (go_at_call 57; (with_reducible refine (soritesref14_Greatest.calls kj12 _ _ l0 x6_2 false _ ?side1 ?side2 A24.out).mono ?_); (case side1 => repeat (first | exact (Kd.C_below HR0.out HB.out) | (with_reducible refine Kd.C_alloc ?_ _) | (with_reducible refine Kd.C_drewN ?_ _) | (with_reducible refine Kd.C_drew ?_))); (case side2 => exact HC0.out); rintro e w29 ⟨rfl, hb⟩; have n0_ := Az_.mk (Kd.R_below (by (with_reducible repeat (first | apply Kd.R_alloc | apply Kd.R_drewN | apply Kd.R_drew)); exact HO_5.out) hb); have n1_ := Az_.mk (bT_ (by repeat (first | (with_reducible first | exact HB.out | apply bA_ | apply bN_ | apply bD_) | exact HB.out)) hb); clear HO_5; clear HB; have HO_5 := n0_; have HB := n1_; clear n0_ n1_; (try clear hb); (try clear hb2); (try clear hk); (try clear hi)))
            go_roundg kj12
            case measure => have := HK1.out; have := HK2.out; have := HJ12.out; omega
            case rel => exact ⟨(x5_2), (wrap64 (x6_2 + 1)), (by first | rfl | (simp; done) | (simp [*]; done)), H', ⟨by have := HK1.out; have := HK2.out; have := HJ12.out; omega⟩, ⟨by (with_reducible repeat (first | apply Kd.R_alloc | apply Kd.R_drewN | apply Kd.R_drew)); exact HO_5.out⟩, ⟨by repeat (first | (with_reducible first | exact HB.out | apply bA_ | apply bN_ | apply bD_) | exact HB.out)⟩⟩
          ·rw [if_neg c23] at H
           have c23b0 : (x3_1 == 0) = false := beq_eq_false_iff_ne.mpr c23
           have c23b1 : (x3_1 != 0) = true := bne_iff_ne.mpr c23
           have H' := Az_.mk H
           clear H
           go_wp2
           go_roundg kj12
           case measure => have := HK1.out; have := HK2.out; have := HJ12.out; omega
           case rel => exact ⟨(x5_2), (wrap64 (x6_2 + 1)), (by first | rfl | (simp; done) | (simp [*]; done)), H', ⟨by have := HK1.out; have := HK2.out; have := HJ12.out; omega⟩, ⟨by (with_reducible repeat (first | apply Kd.R_alloc | apply Kd.R_drewN | apply Kd.R_drew)); exact HO_5.out⟩, ⟨by repeat (first | (with_reducible first | exact HB.out | apply bA_ | apply bN_ | apply bD_) | exact HB.out)⟩⟩
      ·rw [if_neg c12] at H
       have c12b0 : decide (x6_2 < (l0.length : Int)) = false := decide_eq_false c12
       clear c12
       obtain rfl := Option.some.inj H
       go_wp2
       go_ret
       exact ⟨_, by first | rfl | (simp [yad_, yac_] <;> rfl) | (simp [*, yad_, yac_] <;> rfl), by (with_reducible repeat (first | apply Kd.R_alloc | apply Kd.R_drewN | apply Kd.R_drew)); exact HO_5.out, by repeat (first | (with_reducible first | exact HB.out | apply bA_ | apply bN_ | apply bD_) | exact HB.out)⟩
end
end Go.Proofs.Ytpfddihcikiofaa.P
