/- term.walk: for whatever loop body that keeps what is not its own. -/
import Derived.RangeFuncNested
import Derived.RangeFuncBound
import Derived.RangeFuncCalls
import Derived.RangeFuncLeaves
import Derived.Shelf.Abstract
import Derived.Shelf.RegionOpen
import Derived.WalkKit
import Derived.OwnWalkIn
import Derived.TacticsInMore
import Derived.LoopNIn
import Derived.LoopIn
import Derived.Deep.RegionLawGrows
import Derived.Test.YtpfddihcikiofaaTree
namespace Go.Proofs.Ytpfddihcikiofaa.P
open Go.RowKit Go.Shelf Go.Proofs.YtpfddihcikiofaaW.PrintWords Go.Proofs.YtpfddihcikiofaaW.PrintLast Go.Proofs.YtpfddihcikiofaaW.PrintMore
set_option linter.unusedVariables false
set_option linter.unusedSimpArgs false
attribute [local go_sem] Oper.semAt_some

/-- All blocks but those of S lie as they lay. -/
structure Keeps (W W' : World) (S : Nat → Prop) : Prop where
  os : W'.os = W.os
  tape : W'.tape = W.tape
  output : W'.output = W.output
  size : W.heap.size ≤ W'.heap.size
  block : ∀ k, k < W.heap.size → ¬ S k → W'.heap[k]? = W.heap[k]?
theorem Keeps.refl (W : World) (S : Nat → Prop) : Keeps W W S := ⟨rfl, rfl, rfl, Nat.le_refl _, fun _ _ _ => rfl⟩
theorem Keeps.of_below {W W' : World} (h : Below W.heap.size W W') (S : Nat → Prop) : Keeps W W' S := ⟨h.os, h.tape, h.output, h.size, fun k hk _ => h.block k hk⟩
theorem Keeps.trans {W W' W2 : World} {S S' : Nat → Prop} (h : Keeps W W' S) (k : Keeps W' W2 S') (hs : ∀ b, S' b → S b ∨ W.heap.size ≤ b) : Keeps W W2 S :=
  ⟨k.os.trans h.os, k.tape.trans h.tape, k.output.trans h.output, Nat.le_trans h.size k.size, fun b hb hn => (k.block b (Nat.lt_of_lt_of_le hb h.size) (fun h2 => (hs b h2).elim hn (by omega))).trans (h.block b hb hn)⟩
theorem Keeps.below {W W' W2 : World} {S : Nat → Prop} (h : Keeps W W' S) (k : Below W'.heap.size W' W2) : Keeps W W2 S := h.trans (Keeps.of_below k (fun _ => False)) (fun _ h => h.elim)
theorem Keeps.drewN (W : World) (S : Nat → Prop) (n : Nat) : Keeps W (W.drewN n) S := Keeps.of_below (pw_below_drewN (Below.refl _ _) n) S
theorem Keeps.mono {W W' : World} {S S' : Nat → Prop} (h : Keeps W W' S) (hs : ∀ k, S k → S' k) : Keeps W W' S' := ⟨h.os, h.tape, h.output, h.size, fun k hk hn => h.block k hk (fun h2 => hn (hs k h2))⟩
theorem Keeps.toBelow {W W' : World} {S : Nat → Prop} {B : Nat} (h : Keeps W W' S) (hB : B ≤ W.heap.size) (hs : ∀ b, S b → B ≤ b) : Below B W W' :=
  ⟨h.os, h.tape, h.output, h.size, fun k hk => h.block k (by omega) (fun h2 => by have := hs k h2; omega)⟩
theorem Keeps.blk {W W' : World} {S : Nat → Prop} (h : Keeps W W' S) {b : Nat} {o : Obj} (hb : W.heap[b]? = some o) (hn : ¬ S b) : W'.heap[b]? = some o := (h.block b (blk_lt hb) hn).trans hb
/-- What is read outside of S: carried over a round. -/
theorem Keeps.F {α : Type} {d : Kd α} {W W' : World} {S S' : Nat → Prop} {A : Option Addr} {n : Nat} {xs : List α} (h : Keeps W W' S) (hs : ∀ b, S' b → S b ∨ W.heap.size ≤ b) (hf : Kd.F d W (fun k => ¬ S k) A n xs) : Kd.F d W' (fun k => ¬ S' k) A n xs :=
  Kd.F_mono (Kd.F_step (Kd.F_bound hf) (fun k hk hlt => h.block k hlt hk.1)) (fun k hk h2 => (hs k h2).elim hk.1 (fun h3 => by have := hk.2; omega))

theorem wide_any (k : Nat) : Fence.wide.depth.isSome = true → 1 ≤ k := fun h => by cases h
theorem parts_neg (f : Int) (v : Value) (w : World) (hf : decide (f < 0) = true) : Calls Try.prog 74 #[.agg #[.int .i64 f, v]] w fun e w' => e = .returned (.slice none 0 0) ∧ w' = w.alloc (.cells #[.int .i64 f, v] 30) := by
  go_enter Try.func74, Try.ntmps74
  go_wp2
  go_ret
  exact ⟨rfl, rfl⟩
theorem parts_pos (f : Int) (A : Option Addr) (n c : Nat) (w : World) (hf : decide (f < 0) = false) : Calls Try.prog 74 #[.agg #[.int .i64 f, .slice A n c]] w fun e w' => e = .returned (.slice A n c) ∧ w' = w.alloc (.cells #[.int .i64 f, .slice A n c] 30) := by
  go_enter Try.func74, Try.ntmps74
  go_wp2
  go_ret
  exact ⟨rfl, rfl⟩
theorem clip_any (A : Option Addr) (n c : Nat) (w : World) (h : n ≤ c) (hn : n ≤ 9223372036854775807) : Calls Try.prog 109 #[.slice A n c] w fun e w' => e = .returned (.slice A n n) ∧ w' = w := by
  go_enter Try.func109, Try.ntmps109
  go_wp2
  go_ret
  exact ⟨rfl, rfl⟩
/-- What is asked of a round: yield at the element (p, s), told in W. -/
def Yields (l : Nat) (J : (Nat → Prop) → List (List Int × S30) → World → Prop) (N : Nat) : Prop :=
  ∀ (m : Nat) (S : Nat → Prop) (pre : List (List Int × S30)) (p : List Int) (s : S30) (A : Option Addr) (c : Nat) (As : Option Addr) (cs : Nat) (W : World), J S pre W → pre.length < N → p.length ≤ 1099511627776 →
    Kd.F (Kd.int .i64) W (fun k => ¬ S k) A p.length p → p.length ≤ c → Kd.F k30 W (fun k => ¬ S k) As s.f1.length s.f1 → s.f1.length ≤ cs →
    YieldAt Fence.wide m Try.prog l #[.slice A p.length c, .agg #[.int .i64 s.f0, .slice As s.f1.length cs]] W fun e W' => e = .returned (.bool true) ∧ ∃ S' : Nat → Prop, J S' (pre ++ [(p, s)]) W' ∧ Keeps W W' S ∧ ∀ k, S' k → S k ∨ W.heap.size ≤ k

def WalkPost (J : (Nat → Prop) → List (List Int × S30) → World → Prop) (S : Nat → Prop) (pre : List (List Int × S30)) (W : World) (e : Ending) (W' : World) : Prop :=
  e = .returned (.bool true) ∧ ∃ S' : Nat → Prop, J S' pre W' ∧ Keeps W W' S ∧ ∀ k, S' k → S k ∨ W.heap.size ≤ k

set_option maxRecDepth 100000 in
set_option maxHeartbeats 4000000 in
theorem walk_in (l N : Nat) (J : (Nat → Prop) → List (List Int × S30) → World → Prop) (hJb : ∀ S pre W, J S pre W → ∀ k, S k → k < W.heap.size)
    (hJs : ∀ S pre W W', J S pre W → Below W.heap.size W W' → J S pre W') (hY : Yields l J N) (t : S30) :
    ∀ (n : Nat) (S : Nat → Prop) (p : List Int) (A : Option Addr) (c : Nat) (As : Option Addr) (cs : Nat) (pre : List (List Int × S30)) (W : World), J S pre W →
      Kd.F (Kd.int .i64) W (fun k => ¬ S k) A p.length p → p.length ≤ c → Kd.F k30 W (fun k => ¬ S k) As t.f1.length t.f1 → t.f1.length ≤ cs → pre.length + (flatP p t).length ≤ N → p.length + (flatP p t).length ≤ 1099511627776 →
      CallsIn Fence.wide n Try.prog 104 #[.slice A p.length c, .agg #[.int .i64 t.f0, .slice As t.f1.length cs], .func (.yield l) #[] #[]] W (WalkPost J S (pre ++ flatP p t) W) := by
  induction t using S30.ind with
  | h f kids ih =>
  intro n S p A c As cs pre W hJ hp hpc ht htc hN hM
  dsimp only at ht htc ⊢
  have hbox : (W.alloc (.cells #[.int .i64 f, .slice As kids.length cs] 30)).heap[W.heap.size]? = some (.cells #[.int .i64 f, .slice As kids.length cs] 30 (0, 0)) := heap_alloc_new W _
  have hb1 : Below W.heap.size W (W.alloc (.cells #[.int .i64 f, .slice As kids.length cs] 30)) := below_alloc (Below.refl _ _) _
  obtain ⟨fn, tmps, assign, body, hy, hR⟩ := hY (n - 1) S pre p ⟨f, kids⟩ A c As cs _ (hJs _ _ _ _ hJ hb1) (by simp [flatP] at hN; omega) (by omega) (Kd.F_below hp hb1) hpc (Kd.F_below ht hb1) htc
  dsimp only at hy
  refine callsIn_of_wp Try.func104 rfl trivial ?_ rfl
  simp only [Try.ntmps104, List.size_toArray, List.length_cons, List.length_nil, Nat.reduceAdd, Nat.reduceSub, Array.replicate_succ, Array.replicate_zero, List.push_toArray, List.append_toArray, List.nil_append, List.cons_append]
  gi_wp2
  refine ⟨wide_any _, ?_⟩
  refine hR.mono ?_
  clear hR hy
  rintro e W2 ⟨rfl, S2, hJ2, hk2, hs2⟩
  have hS : ¬ S W.heap.size := fun h => by have := hJb _ _ _ hJ _ h; omega
  have hbox2 := hk2.blk hbox hS
  have hp2 := hk2.F hs2 (Kd.F_below hp hb1)
  have ht2 := hk2.F hs2 (Kd.F_below ht hb1)
  have hK2 := (Keeps.of_below hb1 S).trans hk2 (fun b h => .inl h)
  have hs2' : ∀ k, S2 k → S k ∨ W.heap.size ≤ k := fun k h => (hs2 k h).imp_right (fun h => by simp at h; omega)
  clear hk2 hs2 hbox hb1 hS hp ht hJ
  have hc0 : W2.cell? ⟨W.heap.size, 0, none⟩ = some (.int .i64 f) := (blk_cell hbox2 0).trans rfl
  have hc1 : W2.cell? ⟨W.heap.size, 1, none⟩ = some (.slice As kids.length cs) := (blk_cell hbox2 1).trans rfl
  obtain ⟨ks, Ak, ck, hparts, hks, hflat, hmem⟩ : ∃ (ks : List S30) (Ak : Option Addr) (ck : Nat), (∀ w : World, Calls Try.prog 74 #[.agg #[.int .i64 f, .slice As kids.length cs]] w fun e w' => e = .returned (.slice Ak ks.length ck) ∧ w' = w.alloc (.cells #[.int .i64 f, .slice As kids.length cs] 30)) ∧
      Kd.F k30 W2 (fun k => ¬ S2 k) Ak ks.length ks ∧ flatP p ⟨f, kids⟩ = (p, ⟨f, kids⟩) :: flatPs p 0 ks ∧ ∀ x ∈ ks, x ∈ kids := by
    by_cases hf : f < 0
    · exact ⟨[], none, 0, fun w => parts_neg f _ w (decide_eq_true hf), Kd.F_nil _ _ _, by simp [flatP, hf, flatPs], by simp⟩
    · exact ⟨kids, As, cs, fun w => parts_pos f _ _ _ w (decide_eq_false hf), ht2, by simp [flatP, hf], fun x h => h⟩
  have hfl := Aside0.mk hflat
  clear hflat ht2 htc
  have hpp := Aside0.mk hparts
  clear hparts
  have hpz := Aside0.mk hp2
  have hkz := Aside0.mk hks
  have hKz := Aside0.mk hK2
  have hJz := Aside0.mk hJ2
  have hNz := Aside0.mk hN
  have hMz := Aside0.mk hM
  clear hp2 hks hK2 hJ2 hN hM
  gi_wp2_with (refine ⟨trivial, ?_⟩; (try refine ⟨wide_any _, ?_⟩); gi_at_call 74; refine (callsIn_wide.2 (hpp.out _)).mono ?_; rintro e w' ⟨rfl, rfl⟩)
  have hb3 : Below W2.heap.size W2 (W2.alloc (.cells #[.int .i64 f, .slice As kids.length cs] 30)) := below_alloc (Below.refl _ _) _
  have hkl : ks.length ≤ 9223372036854775807 := Kd.F_max hkz.out
  gi_loopw [17] (fun i wr => ∃ (k : Nat) (S3 : Nat → Prop), k ≤ ks.length ∧ i = .int .i64 k ∧ Aside0 (J S3 (pre ++ (p, ⟨f, kids⟩) :: flatPs p 0 (ks.take k)) wr) ∧ Aside0 (Keeps W wr S) ∧ Aside0 (∀ k, S3 k → S k ∨ W.heap.size ≤ k) ∧ Aside0 (Kd.F (Kd.int .i64) wr (fun k => ¬ S3 k) A p.length p) ∧ Aside0 (Kd.F k30 wr (fun k => ¬ S3 k) Ak ks.length ks))
    (fun i wr => ks.length - (intOf i).toNat)
  case atStart =>
    exact ⟨0, S2, Nat.zero_le _, rfl, ⟨by simpa [flatPs] using hJs _ _ _ _ hJz.out hb3⟩, ⟨hKz.out.below hb3⟩, ⟨hs2'⟩, ⟨Kd.F_below hpz.out hb3⟩, ⟨Kd.F_below hkz.out hb3⟩⟩
  case round =>
    obtain ⟨k, S3, hk, rfl, hJ3, hK3, hs3, hp3, hk3⟩ := hrel
    clear hJz hKz hpz hkz hb3
    by_cases hlt : k < ks.length
    · obtain ⟨ad, cc, hAk, hcl, hFK, hcell, hadok⟩ := Kd.F_get hk3.out z30 (k : Int) (by omega) (by omega)
      simp only [Int.toNat_natCast] at hFK hcell
      have hx : ks.getD k z30 = ks[k] := by simp [List.getD_eq_getElem?_getD, hlt]
      rw [hx] at hFK
      obtain ⟨A1, c1, rfl, hl1, hF1⟩ := k30_openF hFK
      have hx0 : wr.cell? (ad.add (k * 2)) = some (.int .i64 ks[k].f0) := hcell 0 _ rfl
      have hx1 : wr.cell? ⟨(ad.add (k * 2)).block, (ad.add (k * 2)).off + 1, none⟩ = some (.slice A1 ks[k].f1.length c1) := by rw [← add_field _ _ 1 (by omega)]; exact hcell 1 _ rfl
      have hxe := hmem ks[k] (List.getElem_mem hlt)
      have hF1z := Aside0.mk hF1
      have hl1z := Aside0.mk hl1
      clear hFK hcell hadok hx hF1 hl1 hcl
      subst hAk
      generalize hxk : ks[k] = x at hx0 hx1 hxe hF1z hl1z
      have hxz := Aside0.mk hxk
      clear hxk
      gi_wp2
      refine wpIn_wide.2 ?_
      have hb4 : Below wr.heap.size wr (wr.alloc (.cells #[.int .i64 x.f0, .slice A1 x.f1.length c1] 30)) := below_alloc (Below.refl _ _) _
      have hB4 : (wr.alloc (.cells #[.int .i64 x.f0, .slice A1 x.f1.length c1] 30)).heap[wr.heap.size]? = some (.cells #[.int .i64 x.f0, .slice A1 x.f1.length c1] 30 (0, 0)) := heap_alloc_new _ _
      have hb5 := hb4.drew
      have hB5 := blk_drew hB4
      refine start_ (n := 9) (S := fun w' => w'.cell? ⟨wr.heap.size, 0, none⟩ = some (.int .i64 x.f0) ∧ w'.cell? ⟨wr.heap.size, 1, none⟩ = some (.slice A1 x.f1.length c1)) (ds := [7]) #[false, false, false, false, false, false, false, false, false] (by kernel_rfl) rfl rfl ⟨(blk_cell hB5 0).trans rfl, (blk_cell hB5 1).trans rfl⟩ (fun hHeld => ?_)
      generalize World.drew (wr.alloc (.cells #[.int .i64 x.f0, .slice A1 x.f1.length c1] 30)) = w5 at hb5 hB5 hHeld ⊢
      clear hb4 hB4 hx0 hx1
      refine pure_ (i := 0) (N := some 22) (v := ?_) (a' := ?_) #[true, false, false, false, false, false, false, false, false] rfl rfl (by kernel_rfl) (fun _ _ _ h => h) (Or.inl ⟨by rfl, ?_⟩) ?_ ?_
      rotate_left
      · intro w'
        go_simp
        with_reducible rfl
      rotate_left
      · simp only [Act.put, List.setIfInBounds_toArray, List.set_cons_zero, List.set_cons_succ, i64_w, i32_w]
        rfl
      refine pure_ (i := 2) (N := some 24) (v := ?_) (a' := ?_) #[true, false, true, false, false, false, false, false, false] rfl rfl (by kernel_rfl) (fun _ _ _ h => h) (Or.inl ⟨by rfl, ?_⟩) ?_ ?_
      rotate_left
      · intro w'
        go_simp
        with_reducible rfl
      rotate_left
      · simp only [Act.put, List.setIfInBounds_toArray, List.set_cons_zero, List.set_cons_succ, i64_w, i32_w]
        rfl
      refine pure_ (i := 6) (N := some 28) (v := ?_) (a' := ?_) #[true, false, true, false, false, false, true, false, false] rfl rfl (by kernel_rfl) (fun _ _ _ h => h) (Or.inl ⟨by rfl, ?_⟩) ?_ ?_
      rotate_left
      · intro w'
        go_simp
        with_reducible rfl
      rotate_left
      · simp only [Act.put, List.setIfInBounds_toArray, List.set_cons_zero, List.set_cons_succ, i64_w, i32_w]
        rfl
      refine take_ (i := 5) (N := some 27) (v := ?_) (a' := ?_) #[true, false, true, false, false, true, true, false, false] rfl rfl (by kernel_rfl) (fun _ _ _ h => h) (Or.inl ⟨by rfl, ?_⟩) hHeld ?_ ?_
      rotate_left
      · rintro w' ⟨s0, s1⟩
        go_simp
        with_reducible rfl
      rotate_left
      · simp only [Act.put, List.setIfInBounds_toArray, List.set_cons_zero, List.set_cons_succ, i64_w, i32_w]
        rfl
      have hpl : p.length < 1099511627776 := by
        have h1 := hMz.out
        rw [hfl.out] at h1
        simp at h1
        omega
      have hflk := flatPs_take p ks k hlt
      rw [hxz.out] at hflk
      have hfle := flatPs_take_le p ks (k + 1)
      have hlen : (flatP (p ++ [(k : Int)]) x).length + (flatPs p 0 (ks.take k)).length + 1 ≤ (flatP p ⟨f, kids⟩).length := by
        rw [hfl.out]
        rw [hflk] at hfle
        simp at hfle ⊢
        omega
      have hlz := Aside0.mk hlen
      have hflkz := Aside0.mk hflk
      clear hlen hflk hfle
      -- behind the cut and the new cell, whichever came first
      refine join_ (σ := Unit) 3 #[true, true, true, true, false, true, true, false, false] (fun _ => [(23, .slice A p.length p.length), (25, .slice (some ⟨w5.heap.size, 0, none⟩) 1 1)]) (fun _ w' => w' = w5.alloc (.cells #[.int .i64 (k : Int)] 3)) ?cont ?two
      case cont =>
        rintro _ w6 rfl
        refine norm_ (a' := ?_) ?_ ?_
        rotate_left
        · simp only [putAll, Act.put, List.setIfInBounds_toArray, List.set_cons_zero, List.set_cons_succ, i64_w, i32_w]
          rfl
        refine one_ (i := 4) (N := some 26) #[true, true, true, true, true, true, true, false, false] rfl rfl (by kernel_rfl) (by decide) (fun K hK => ?_)
        obtain ⟨i0, hi, hz0, hz1, hz2⟩ := info_parts info3
        have hB6 := blk_alloc hB5 (.cells #[.int .i64 (k : Int)] 3)
        have hb6 : Below wr.heap.size wr (w5.alloc (.cells #[.int .i64 (k : Int)] 3)) := hb5.alloc hb5.size _
        have hN6 : (w5.alloc (.cells #[.int .i64 (k : Int)] 3)).heap[w5.heap.size]? = some (.cells #[.int .i64 (k : Int)] 3 (0, 0)) := heap_alloc_new _ _
        have hsz6 : w5.heap.size < (w5.alloc (.cells #[.int .i64 (k : Int)] 3)).heap.size := by simp
        generalize w5.alloc (.cells #[.int .i64 (k : Int)] 3) = w6 at hB6 hb6 hN6 hsz6 ⊢
        have hC := Kd.F_now (Kd.F_below hp3.out hb6)
        refine step_append_grows rfl (.tmp 23) (.tmp 25) 25 rfl 3 i0 (.int .i64 0) 1 8 Try.underlying25 hi hz0 hz1 hz2 rfl (by decide) A p.length p.length (p.map (.int .i64)) rfl ?hnone (by simp) ?holds ⟨w5.heap.size, 0, none⟩ 1 1 [.int .i64 (k : Int)] rfl rfl ?hnews (by intro u hu; simp at hu; subst hu; rfl) (by omega) (by simp only [maxLen]; omega) (by omega) ?_
        case hnone =>
          intro hA
          have h0 : p.length = 0 := by
            rcases Nat.eq_zero_or_pos p.length with h | h
            · exact h
            · obtain ⟨ad', e', _⟩ := hC.2.2 h
              rw [hA] at e'
              cases e'
          exact ⟨h0, h0⟩
        case holds =>
          intro b hb j u hu
          have hj : j < p.length := by
            have := (List.getElem?_eq_some_iff.1 hu).1
            simpa using this
          obtain ⟨ad', e', hcj⟩ := Kd.at_int hC (j : Int) (by omega) (by omega)
          rw [hb] at e'
          cases e'
          simp only [Int.toNat_natCast, rd] at hcj
          rw [hcj]
          simp only [List.getElem?_map, List.getElem?_eq_getElem hj, Option.map_some] at hu
          simpa [List.getD_eq_getElem?_getD, List.getElem?_eq_getElem hj] using hu
        case hnews =>
          intro j u hu
          cases j with
          | zero =>
            simp at hu
            subst hu
            rw [add_plain]
            exact (blk_cell hN6 0).trans rfl
          | succ j => simp at hu
        intro v1 w7 hown hg
        have hR : (Kd.int .i64).R 3 w7 w6.heap.size (fun b => w6.heap.size ≤ b) v1 (p ++ [(k : Int)]) := Kd.R_of_own (by simpa [encs] using hown) (fun b hb => own_base hown b hb)
        obtain ⟨A2, c2, hv, hl2, _⟩ := Kd.R_reads hR
        subst hv
        have hF2 := Kd.R_F hR
        have hb7 : Below wr.heap.size wr w7 := hb6.grown hg hb6.size (by simp)
        have hB7 := blk_grown hB6 hg (by simp)
        have hsz7 := hb6.size
        have hJ7 := hJs _ _ _ _ hJ3.out hb7
        have hF2' : Kd.F (Kd.int .i64) w7 (fun b => ¬ S3 b) A2 (p ++ [(k : Int)]).length (p ++ [(k : Int)]) := Kd.F_mono hF2 (fun b hb h => by have := hJb _ _ _ hJ3.out b h; omega)
        have hFx := Kd.F_below hF1z.out hb7
        have hFp7 := Kd.F_below hp3.out hb7
        have hFk7 := Kd.F_below hk3.out hb7
        have hK7 := hK3.out.below hb7
        clear hR hF2 hown hC hB6 hb6 hN6 hg hHeld hB5 hb5
        refine hK.out _ _ ⟨(blk_cell hB7 0).trans rfl, (blk_cell hB7 1).trans rfl⟩ (fun hHeld => ?_)
        clear hK K
        refine norm_ (a' := ?_) ?_ ?_
        rotate_left
        · show Act.put _ (some 26) _ = _
          simp only [Act.put, List.setIfInBounds_toArray, List.set_cons_zero, List.set_cons_succ, i64_w, i32_w]
          rfl
        refine last_ (i := 7) (N := some 29) #[true, true, true, true, true, true, true, true, false] rfl rfl (by kernel_rfl) (by decide) (fun K hK => ?_)
        refine goes_ Try.func104 (by kernel_rfl) rfl #[.slice A2 (p ++ [(k : Int)]).length c2, .agg #[.int .i64 x.f0, .slice A1 x.f1.length c1], .func (.yield l) #[] #[]] (by rfl) rfl rfl (by (try simp only [List.map_toArray, List.map_cons, List.map_nil]); first | done | rfl) ?_
        refine (callsIn_wide.1 (ih x hxe 0 S3 (p ++ [(k : Int)]) A2 c2 A1 c1 _ w7 hJ7 hF2' hl2 hFx hl1z.out ?_ ?_)).mono ?_
        · have h1 := hlz.out
          have h2 := hNz.out
          simp only [List.length_append, List.length_cons]
          omega
        · have h1 := hlz.out
          have h2 := hMz.out
          simp only [List.length_append, List.length_cons, List.length_nil]
          omega
        rintro e w8 ⟨rfl, S4, hJ4, hK4, hs4⟩
        refine ⟨_, rfl, ?_⟩
        refine hK.out _ _ ?_
        clear hK K
        refine norm_ (a' := ?_) ?_ ?_
        rotate_left
        · show Act.put _ (some 29) _ = _
          simp only [Act.put, List.setIfInBounds_toArray, List.set_cons_zero, List.set_cons_succ, i64_w, i32_w]
          rfl
        refine pure_ (i := 8) (N := some 30) (v := ?_) (a' := ?_) #[true, true, true, true, true, true, true, true, true] rfl rfl (by kernel_rfl) (fun _ _ _ h => h) (Or.inl ⟨by rfl, ?_⟩) ?_ ?_
        rotate_left
        · intro w'
          go_simp
          with_reducible rfl
        rotate_left
        · simp only [Act.put, List.setIfInBounds_toArray, List.set_cons_zero, List.set_cons_succ, i64_w, i32_w]
          rfl
        refine done_ (by kernel_rfl) ?_
        have hFp8 := Aside0.mk (hK4.F hs4 hFp7)
        have hFk8 := Aside0.mk (hK4.F hs4 hFk7)
        have hK8 := Aside0.mk (hK7.trans hK4 hs3.out)
        have hs8 : Aside0 (∀ b, S4 b → S b ∨ W.heap.size ≤ b) := ⟨fun b hb => (hs4 b hb).elim (hs3.out b) (fun h => .inr (by have h1 := hK7.size; omega))⟩
        have hJ8 : Aside0 (J S4 (pre ++ (p, ⟨f, kids⟩) :: flatPs p 0 (ks.take (k + 1))) w8) := ⟨by rw [hflkz.out]; simpa [List.append_assoc] using hJ4⟩
        clear hK4 hs4 hFp7 hFk7 hK7 hs3 hJ4 hJ7 hFx hF2' hB7 hb7 hHeld
        gi_wp2
        go_roundw
        case rel => exact ⟨k + 1, S4, by omega, by go_num, hJ8, hK8, hs8, hFp8, hFk8⟩
        case measure => simp [intOf]; omega
      intro hcont
      refine two_ (i := 1) (j := 3) (Ni := some 23) (Nj := some 25) #[true, true, true, false, false, true, true, false, false] #[true, false, true, true, false, true, true, false, false] rfl rfl rfl rfl (by kernel_rfl) (by decide) (by decide) (fun K hK => ?_) (fun K hK => ?_)
      · refine goes_ Try.func109 (by kernel_rfl) rfl #[.slice A p.length c] (by rfl) rfl rfl (by (try simp only [List.map_toArray, List.map_cons, List.map_nil]); first | done | rfl) ?_
        refine (clip_any A p.length c _ hpc (by omega)).mono ?_
        rintro e w6 ⟨rfl, rfl⟩
        refine ⟨_, rfl, ?_⟩
        refine hK.out _ _ hHeld (fun hHeld => ?_)
        clear hK K
        refine norm_ (a' := ?_) ?_ ?_
        rotate_left
        · show Act.put _ (some 23) _ = _
          simp only [Act.put, List.setIfInBounds_toArray, List.set_cons_zero, List.set_cons_succ, i64_w, i32_w]
          rfl
        refine one_ (i := 3) (N := some 25) #[true, true, true, true, false, true, true, false, false] rfl rfl (by kernel_rfl) (by decide) (fun K hK => ?_)
        refine value_ (w1 := ?_) (v := ?_) (by rfl) rfl ?_ ?_
        rotate_left 2
        · go_simp
          constructor
          · rfl
          · rfl
        refine hK.out _ _ ⟨(blk_cell (blk_alloc hB5 _) 0).trans rfl, (blk_cell (blk_alloc hB5 _) 1).trans rfl⟩ (fun hHeld => ?_)
        clear hK K
        refine norm_ (a' := ?_) ?_ ?_
        rotate_left
        · show Act.put _ (some 25) _ = _
          simp only [Act.put, List.setIfInBounds_toArray, List.set_cons_zero, List.set_cons_succ, i64_w, i32_w]
          rfl
        have h := hcont () _ rfl
        simp only [putAll, Act.put, List.setIfInBounds_toArray, List.set_cons_zero, List.set_cons_succ, i64_w, i32_w] at h
        exact h
      · refine value_ (w1 := ?_) (v := ?_) (by rfl) rfl ?_ ?_
        rotate_left 2
        · go_simp
          constructor
          · rfl
          · rfl
        refine hK.out _ _ ⟨(blk_cell (blk_alloc hB5 _) 0).trans rfl, (blk_cell (blk_alloc hB5 _) 1).trans rfl⟩ (fun hHeld => ?_)
        clear hK K
        refine norm_ (a' := ?_) ?_ ?_
        rotate_left
        · show Act.put _ (some 25) _ = _
          simp only [Act.put, List.setIfInBounds_toArray, List.set_cons_zero, List.set_cons_succ, i64_w, i32_w]
          rfl
        refine one_ (i := 1) (N := some 23) #[true, true, true, true, false, true, true, false, false] rfl rfl (by kernel_rfl) (by decide) (fun K hK => ?_)
        refine goes_ Try.func109 (by kernel_rfl) rfl #[.slice A p.length c] (by rfl) rfl rfl (by (try simp only [List.map_toArray, List.map_cons, List.map_nil]); first | done | rfl) ?_
        refine (clip_any A p.length c _ hpc (by omega)).mono ?_
        rintro e w6 ⟨rfl, rfl⟩
        refine ⟨_, rfl, ?_⟩
        refine hK.out _ _ hHeld (fun hHeld => ?_)
        clear hK K
        refine norm_ (a' := ?_) ?_ ?_
        rotate_left
        · show Act.put _ (some 23) _ = _
          simp only [Act.put, List.setIfInBounds_toArray, List.set_cons_zero, List.set_cons_succ, i64_w, i32_w]
          rfl
        have h := hcont () _ rfl
        simp only [putAll, Act.put, List.setIfInBounds_toArray, List.set_cons_zero, List.set_cons_succ, i64_w, i32_w] at h
        exact h
    · gi_wp2
      go_ret
      exact ⟨rfl, S3, by rw [hfl.out]; have h := hJ3.out; rwa [List.take_of_length_le (by omega)] at h, hK3.out, hs3.out⟩
end Go.Proofs.Ytpfddihcikiofaa.P
