/- The law OrderMulti holds of every input. Part 5 of 5: GMoreR, GOrderMulti, LawOrderMulti. -/
import Derived.Test.YtpfddihcikiofaaZOrderMulti4
import Derived.Test.YtpfddihcikiofaaZOrderMulti3
import Derived.Test.YtpfddihcikiofaaZOrderMulti2
import Derived.Test.YtpfddihcikiofaaRows
import Derived.WalkKit
import Derived.ProofKit
import Derived.OpenShut
import Derived.ShutString
import Derived.ChangeOld
import Derived.Below
import Derived.SizedLaws
import Derived.Test.YtpfddihcikiofaaZOrderMulti1
namespace Go.Proofs.Ytpfddihcikiofaa.P
open Go.RowKit Go.Proofs.YtpfddihcikiofaaW.PrintWords Go.Proofs.YtpfddihcikiofaaW.PrintLast Go.Proofs.YtpfddihcikiofaaW.PrintMore
set_option linter.unusedVariables false
set_option linter.unusedSimpArgs false
section
abbrev OwnR (w0 w : World) (v : Value) (xs : List S30) : Prop := Kd.N k30 30 w w0.heap.size (fun _ => True) v xs
structure MoreJ (w0 : World) (x : List S30) (z : S30) (Z : Option Addr) (cz : Nat) (v : Nat → Value) (d : Nat → Bool) (w : World) : Prop where
 j0 : d 0 = true → d 2 = false → OwnR w0 w (v 0) [] ∧ ∃ b, (v 0).ownBlock = some b
 j2 : d 2 = true → d 5 = false → OwnR w0 w (v 2) x
 j4 : d 4 = true → d 5 = false → ∃ g, v 4 = .slice (some ⟨g, 0, none⟩) 1 1 ∧ w0.heap.size ≤ g ∧ w.heap[g]? = some (.cells #[.int .i64 z.f0, .slice Z z.f1.length cz] 30 (0, 0)) ∧ (d 2 = true → some g ≠ (v 2).ownBlock) ∧ (d 0 = true → d 2 = false → some g ≠ (v 0).ownBlock)
 j5 : d 5 = true → OwnR w0 w (v 5) (x ++ [z])
 j6 : d 6 = true → v 6 = v 5
 d2 : d 2 = true → d 0 = true
 d5 : d 5 = true → d 2 = true ∧ d 4 = true
 d6 : d 6 = true → d 5 = true
theorem MoreJ.start (w0 : World) (x : List S30) (z : S30) (Z : Option Addr) (cz : Nat) (v : Nat → Value) (w : World) : MoreJ w0 x z Z cz v (fun _ => false) w :=
 ⟨fun h => (by cases h), fun h => (by cases h), fun h => (by cases h), fun h => (by cases h), fun h => (by cases h), fun h => (by cases h), fun h => (by cases h), fun h => (by cases h)⟩
theorem MoreJ.other {w0 : World} {x : List S30} {z : S30} {Z : Option Addr} {cz : Nat} (i : Nat) (hi : i ∉ [0, 2, 4, 5, 6]) (v : Nat → Value) (d : Nat → Bool) (w w' : World) (u : Value) (h : MoreJ w0 x z Z cz v d w) (hd : d i = false) (hb : Below w.heap.size w w') : MoreJ w0 x z Z cz (upd v i u) (upd d i true) w' := by
 have n : ∀ j, j ∈ [0, 2, 4, 5, 6] → j ≠ i := fun j hj e => hi (e ▸ hj)
 have n0 := n 0 (by simp)
 have n2 := n 2 (by simp)
 have n4 := n 4 (by simp)
 have n5 := n 5 (by simp)
 have n6 := n 6 (by simp)
 constructor
 all_goals simp only [yac_ _ _ n0, yac_ _ _ n2, yac_ _ _ n4, yac_ _ _ n5, yac_ _ _ n6]
 ·exact fun h0 h2 => ⟨Kd.N_below (h.j0 h0 h2).1 hb, (h.j0 h0 h2).2⟩
 ·exact fun h2 h5 => Kd.N_below (h.j2 h2 h5) hb
 ·intro h4 h5
  obtain ⟨g, e1, e2, e3, e4, e5⟩ := h.j4 h4 h5
  exact ⟨g, e1, e2, kB_ e3 hb, e4, e5⟩
 ·exact fun h5 => Kd.N_below (h.j5 h5) hb
 ·exact h.j6
 ·exact h.d2
 ·exact h.d5
 ·exact h.d6
theorem F_one {W W0 : World} {g : Nat} {z : S30} {Z : Option Addr} {cz : Nat} (hb : Below W0.heap.size W0 W) (hl : z.f1.length ≤ cz) (hC : k30.C W0 Z z.f1.length z.f1) (hg : W.heap[g]? = some (.cells #[.int .i64 z.f0, .slice Z z.f1.length cz] 30 (0, 0))) : Kd.F k30 W (fun k => k < W0.heap.size ∨ k = g) (some ⟨g, 0, none⟩) 1 [z] := by
 intro W' hW
 have hF := Kd.F_mono (F_old k30_heap hC hb) (fun k hk => (Or.inl hk : k < W0.heap.size ∨ k = g))
 exact C_one k30 (k30_mk W' z hl (hF W' hW)) ((hW g (.inr rfl) (blk_lt hg)).trans hg)
set_option maxHeartbeats 4000000 in
set_option maxRecDepth 100000 in
theorem OrderMulti_r25 {id : Nat} {a : Act} {w : World} {Q : Exit → Act → World → Prop} {x : List S30} {A : Option Addr} {c g : Nat} {z : S30} {Z : Option Addr} {cz : Nat}
  (hr : regionOk #[{ dst := some 99, op := Op.buildSlice 28 0 #[], type := 28, pos := "law.go:177", after := #[], guard := none }, { dst := some 100, op := Op.move (Operand.tmp 9), type := 28, pos := "law.go:177", after := #[], guard := none }, { dst := some 101, op := Op.call { callee := Callee.builtin Builtin.append, args := #[Operand.tmp 99, Operand.tmp 100], argTypes := #[28, 28] }, type := 28, pos := "law.go:177", after := #[{ on := 0, ground := Ground.data }, { on := 1, ground := Ground.data }], guard := none }, { dst := some 102, op := Op.load 30 (Operand.tmp 15), type := 30, pos := "law.go:177", after := #[], guard := none }, { dst := some 103, op := Op.buildSlice 28 1 #[(0, Operand.tmp 102)], type := 28, pos := "law.go:177", after := #[{ on := 3, ground := Ground.data }], guard := none }, { dst := some 104, op := Op.call { callee := Callee.builtin Builtin.append, args := #[Operand.tmp 101, Operand.tmp 103], argTypes := #[28, 28] }, type := 28, pos := "law.go:177", after := #[{ on := 2, ground := Ground.data }, { on := 4, ground := Ground.data }, { on := 2, ground := Ground.chain }], guard := none }, { dst := some 17, op := Op.assign (Operand.tmp 104), type := 28, pos := "law.go:177", after := #[{ on := 5, ground := Ground.data }, { on := 5, ground := Ground.chain }, { on := 0, ground := Ground.phase }, { on := 1, ground := Ground.phase }, { on := 2, ground := Ground.phase }, { on := 3, ground := Ground.phase }, { on := 4, ground := Ground.phase }, { on := 5, ground := Ground.phase }], guard := none }] a.tmps.size = true)
  (hT9 : a.tmps.getD 9 undef = .slice A x.length c) (hT15 : a.tmps.getD 15 undef = .pointer (some ⟨g, 0, none⟩)) (hX : w.heap[g]? = some (.cells #[.int .i64 z.f0, .slice Z z.f1.length cz] 30 (0, 0)))
  (hC : k30.C w A x.length x) (hlz : z.f1.length ≤ cz) (hCz : k30.C w Z z.f1.length z.f1) (hn : x.length ≤ 1000)
  (h : ∀ v w', Below w.heap.size w w' → OwnR w w' (v 6) (x ++ [z]) → Q .normal { tmps := layL [some 99, some 100, some 101, some 102, some 103, some 104, some 17] 0 v a.tmps, defers := a.defers } w') :
  (Code.region id #[{ dst := some 99, op := Op.buildSlice 28 0 #[], type := 28, pos := "law.go:177", after := #[], guard := none }, { dst := some 100, op := Op.move (Operand.tmp 9), type := 28, pos := "law.go:177", after := #[], guard := none }, { dst := some 101, op := Op.call { callee := Callee.builtin Builtin.append, args := #[Operand.tmp 99, Operand.tmp 100], argTypes := #[28, 28] }, type := 28, pos := "law.go:177", after := #[{ on := 0, ground := Ground.data }, { on := 1, ground := Ground.data }], guard := none }, { dst := some 102, op := Op.load 30 (Operand.tmp 15), type := 30, pos := "law.go:177", after := #[], guard := none }, { dst := some 103, op := Op.buildSlice 28 1 #[(0, Operand.tmp 102)], type := 28, pos := "law.go:177", after := #[{ on := 3, ground := Ground.data }], guard := none }, { dst := some 104, op := Op.call { callee := Callee.builtin Builtin.append, args := #[Operand.tmp 101, Operand.tmp 103], argTypes := #[28, 28] }, type := 28, pos := "law.go:177", after := #[{ on := 2, ground := Ground.data }, { on := 4, ground := Ground.data }, { on := 2, ground := Ground.chain }], guard := none }, { dst := some 17, op := Op.assign (Operand.tmp 104), type := 28, pos := "law.go:177", after := #[{ on := 5, ground := Ground.data }, { on := 5, ground := Ground.chain }, { on := 0, ground := Ground.phase }, { on := 1, ground := Ground.phase }, { on := 2, ground := Ground.phase }, { on := 3, ground := Ground.phase }, { on := 4, ground := Ground.phase }, { on := 5, ground := Ground.phase }], guard := none }] true).wp Try.prog Q a w := by
 have hmx : Try.prog.follows .mixedOrders = true := by kernel_rfl
 have hJo : ∀ i, i ∉ [0, 2, 4, 5, 6] → ∀ v d (w1 w2 : World) u, MoreJ w x z Z cz v d w1 → d i = false → Below w1.heap.size w1 w2 → MoreJ w x z Z cz (upd v i u) (upd d i true) w2 := MoreJ.other
 refine region_detJ (fun _ _ => True) (MoreJ w x z Z cz) 7 trivial (fun v => MoreJ.start w x z Z cz v _) hmx hr rfl ?_
 refine DetJ.cons (o := { dst := some 99, op := Op.buildSlice 28 0 #[], type := 28, pos := "law.go:177", after := #[], guard := none }) (fun _ _ => True) rfl (by decide) (fun _ _ _ _ _ => trivial) (fun v d T w' hb hj hd0 hd hdd hB K hK => ?s0) ?r0
 case s0 =>
  refine Kd.N_lit_step (a := { tmps := T, defers := a.defers }) k30 (w0 := w) w.heap.size 30 (yad_ _ rfl) rfl (xs := []) (inner := []) (ok := fun _ => True) (okp := fun _ => True) ?hrun ⟨rfl, fun i p hp => by simp at hp⟩ (fun _ _ => trivial) trivial hb hb.size (by decide) ?_
  case hrun => first | (go_simp; done) | (go_simp; rfl)
  intro v1 w1 hN hb1 hg1 hat
  have hbb : Below w'.heap.size w' w1 := ⟨hg1.os, hg1.tape, hg1.output, hg1.size, fun k hk => hg1.block k hk (by simp)⟩
  refine hK _ _ trivial hb1 trivial ?_
  obtain ⟨b, hb2, hbl⟩ := hat
  have n2 : d 2 = false := by cases h2 : d 2 with | false => rfl | true => rw [hj.d2 h2] at hd0; cases hd0
  have n5 : d 5 = false := by cases h5 : d 5 with | false => rfl | true => rw [(hj.d5 h5).1] at n2; cases n2
  have n6 : d 6 = false := by cases h6 : d 6 with | false => rfl | true => rw [hj.d6 h6] at n5; cases n5
  constructor
  all_goals simp only [upd_same, yac_ _ _ (show (2 : Nat) ≠ 0 by decide), yac_ _ _ (show (4 : Nat) ≠ 0 by decide), yac_ _ _ (show (5 : Nat) ≠ 0 by decide), yac_ _ _ (show (6 : Nat) ≠ 0 by decide)]
  ·exact fun _ _ => ⟨hN, b, hb2⟩
  ·exact fun h2 => by rw [n2] at h2; cases h2
  ·intro h4 h5
   obtain ⟨g4, e1, e2, e3, e4, e5⟩ := hj.j4 h4 h5
   exact ⟨g4, e1, e2, kB_ e3 hbb, (fun h2 => by rw [n2] at h2; cases h2), (fun _ _ he => by rw [hb2] at he; injection he with he; have := blk_lt e3; omega)⟩
  ·exact fun h5 => by rw [n5] at h5; cases h5
  ·exact fun h6 => by rw [n6] at h6; cases h6
  ·exact fun _ => trivial
  ·exact fun h5 => by rw [n5] at h5; cases h5
  ·exact fun h6 => by rw [n6] at h6; cases h6
 refine DetJ.is (o := { dst := some 100, op := Op.move (Operand.tmp 9), type := 28, pos := "law.go:177", after := #[], guard := none }) (u := .slice A x.length c) (fun _ _ _ => trivial) [0, 2, 4, 5, 6] hJo rfl (by decide) (by decide) (fun T w' hb hd hB K hK => ?s1) ?r1
 case s1 =>
  have e9 := (hB 9 (by kernel_rfl)).trans hT9
  rw [if_pos (yad_ _ rfl)]
  clear hd hB
  go_simp
  exact hK _ (Below.refl _ _)
 refine DetJ.cons (o := { dst := some 101, op := Op.call { callee := Callee.builtin Builtin.append, args := #[Operand.tmp 99, Operand.tmp 100], argTypes := #[28, 28] }, type := 28, pos := "law.go:177", after := #[{ on := 0, ground := Ground.data }, { on := 1, ground := Ground.data }], guard := none }) (fun _ _ => True) rfl (by decide) (fun _ _ _ _ _ => trivial) (fun v d T w' hb hj hd0 hd hdd hB K hK => ?s2) ?r2
 case s2 =>
  have e1 := hd 1 100 _ (by decide) (by kernel_rfl) rfl rfl
  replace e1 : T.getD 100 undef = .slice A x.length c := e1
  obtain ⟨d0, e0⟩ := hdd 0 (by kernel_rfl)
  replace e0 : T.getD 99 undef = v 0 := e0 99 rfl
  obtain ⟨hN, b, hb0⟩ := hj.j0 d0 hd0
  have hge := Kd.N_base hN b hb0
  refine Kd.N_append_rows_step (a := { tmps := T, defers := a.defers }) k30 (w0 := w) w.heap.size (yad_ _ rfl) (.tmp 99) (.tmp 100) 28 30 (.agg #[(.int .i64 0), (.slice none 0 0)]) 32 rfl Try.underlying28 info30 rfl (by decide) (by omega) (v 0) [] x A x.length c (fun _ => True) (fun k => k < w.heap.size) e0 e1 hN (F_old k30_heap hC hb) (fun k hk => ⟨trivial, fun he => by rw [hb0] at he; injection he with he; omega⟩) (fun _ _ => trivial) hb hb.size (by simp; omega) ?_
  intro v1 w1 hN1 hb1 hg1 hat
  rw [List.nil_append] at hN1
  refine hK _ _ trivial hb1 trivial ?_
  have n5 : d 5 = false := by cases h5 : d 5 with | false => rfl | true => rw [(hj.d5 h5).1] at hd0; cases hd0
  have n6 : d 6 = false := by cases h6 : d 6 with | false => rfl | true => rw [hj.d6 h6] at n5; cases n5
  constructor
  all_goals simp only [upd_same, yac_ _ _ (show (0 : Nat) ≠ 2 by decide), yac_ _ _ (show (4 : Nat) ≠ 2 by decide), yac_ _ _ (show (5 : Nat) ≠ 2 by decide), yac_ _ _ (show (6 : Nat) ≠ 2 by decide)]
  ·exact fun _ h2 => by cases h2
  ·exact fun _ _ => hN1
  ·intro h4 h5
   obtain ⟨g4, e1, e2, e3, e4, e5⟩ := hj.j4 h4 h5
   have hne := e5 d0 hd0
   refine ⟨g4, e1, e2, (hg1.block g4 (blk_lt e3) hne).trans e3, fun _ he => ?_, fun _ h2 => by cases h2⟩
   rcases hat with hat | ⟨b2, hb2, hl2⟩
   ·rw [hat] at he; exact hne he
   ·rw [hb2] at he; injection he with he; have := blk_lt e3; omega
  ·exact fun h5 => by rw [n5] at h5; cases h5
  ·exact fun h6 => by rw [n6] at h6; cases h6
  ·exact fun _ => d0
  ·exact fun h5 => by rw [n5] at h5; cases h5
  ·exact fun h6 => by rw [n6] at h6; cases h6
 refine DetJ.is (o := { dst := some 102, op := Op.load 30 (Operand.tmp 15), type := 30, pos := "law.go:177", after := #[], guard := none }) (u := .agg #[.int .i64 z.f0, .slice Z z.f1.length cz]) (fun _ _ _ => trivial) [0, 2, 4, 5, 6] hJo rfl (by decide) (by decide) (fun T w' hb hd hB K hK => ?s3) ?r3
 case s3 =>
  have e15 := (hB 15 (by kernel_rfl)).trans hT15
  have q0 : w'.cell? ⟨g, 0, none⟩ = some (.int .i64 z.f0) := (yaa_ (kB_ hX hb) 0).trans rfl
  have q1 : w'.cell? ⟨g, 1, none⟩ = some (.slice Z z.f1.length cz) := (yaa_ (kB_ hX hb) 1).trans rfl
  rw [if_pos (yad_ _ rfl)]
  clear hd hB
  go_simp
  exact hK _ (Below.refl _ _)
 refine DetJ.cons (o := { dst := some 103, op := Op.buildSlice 28 1 #[(0, Operand.tmp 102)], type := 28, pos := "law.go:177", after := #[{ on := 3, ground := Ground.data }], guard := none }) (fun _ _ => True) rfl (by decide) (fun _ _ _ _ _ => trivial) (fun v d T w' hb hj hd0 hd hdd hB K hK => ?s4) ?r4
 case s4 =>
  have e102 := hd 3 102 _ (by decide) (by kernel_rfl) rfl rfl
  replace e102 : T.getD 102 undef = _ := e102
  have z102 : T[102]?.getD undef = _ := Array.getD_eq_getD_getElem?.symm.trans e102
  rw [if_pos (yad_ _ rfl)]
  have hb4 : Below w'.heap.size w' (w'.alloc (.cells #[.int .i64 z.f0, .slice Z z.f1.length cz] 30)) := bA_ (Below.refl _ _) _
  have hJ4 : MoreJ w x z Z cz (upd v 4 (.slice (some ⟨w'.heap.size, 0, none⟩) 1 1)) (upd d 4 true) (w'.alloc (.cells #[.int .i64 z.f0, .slice Z z.f1.length cz] 30)) := by
   have n5 : d 5 = false := by cases h5 : d 5 with | false => rfl | true => rw [(hj.d5 h5).2] at hd0; cases hd0
   have n6 : d 6 = false := by cases h6 : d 6 with | false => rfl | true => rw [hj.d6 h6] at n5; cases n5
   constructor
   all_goals simp only [upd_same, yac_ _ _ (show (0 : Nat) ≠ 4 by decide), yac_ _ _ (show (2 : Nat) ≠ 4 by decide), yac_ _ _ (show (5 : Nat) ≠ 4 by decide), yac_ _ _ (show (6 : Nat) ≠ 4 by decide)]
   ·exact fun h0 h2 => ⟨Kd.N_below (hj.j0 h0 h2).1 hb4, (hj.j0 h0 h2).2⟩
   ·exact fun h2 h5 => Kd.N_below (hj.j2 h2 h5) hb4
   ·exact fun _ _ => ⟨_, rfl, hb.size, blk_new _ _, (fun h2 he => by have := Kd.N_lt (hj.j2 h2 n5) _ he.symm; omega), fun h0 h2 he => by have := Kd.N_lt (hj.j0 h0 h2).1 _ he.symm; omega⟩
   ·exact fun h5 => by rw [n5] at h5; cases h5
   ·exact fun h6 => by rw [n6] at h6; cases h6
   ·exact hj.d2
   ·exact fun h5 => by rw [n5] at h5; cases h5
   ·exact fun h6 => by rw [n6] at h6; cases h6
  have hK4 := hK _ _ trivial (hb.trans (hb4.mono hb.size)) trivial hJ4
  clear hd hB hdd hJ4 hK
  go_simp
  exact hK4
 refine DetJ.cons (o := { dst := some 104, op := Op.call { callee := Callee.builtin Builtin.append, args := #[Operand.tmp 101, Operand.tmp 103], argTypes := #[28, 28] }, type := 28, pos := "law.go:177", after := #[{ on := 2, ground := Ground.data }, { on := 4, ground := Ground.data }, { on := 2, ground := Ground.chain }], guard := none }) (fun _ _ => True) rfl (by decide) (fun _ _ _ _ _ => trivial) (fun v d T w' hb hj hd0 hd hdd hB K hK => ?s5) ?r5
 case s5 =>
  obtain ⟨d2, e2⟩ := hdd 2 (by kernel_rfl)
  replace e2 : T.getD 101 undef = v 2 := e2 101 rfl
  obtain ⟨d4, e4⟩ := hdd 4 (by kernel_rfl)
  replace e4 : T.getD 103 undef = v 4 := e4 103 rfl
  have hN := hj.j2 d2 hd0
  obtain ⟨g4, f1, f2, f3, f4, _⟩ := hj.j4 d4 hd0
  rw [f1] at e4
  have hokp : ∀ k, k < w.heap.size ∨ k = g4 → True ∧ some k ≠ (v 2).ownBlock := by
   intro k hk
   refine ⟨trivial, fun he => ?_⟩
   rcases hk with hk | rfl
   ·have := Kd.N_base hN k he.symm; omega
   ·exact f4 d2 he
  refine Kd.N_append_rows_step (a := { tmps := T, defers := a.defers }) k30 (w0 := w) w.heap.size (yad_ _ rfl) (.tmp 101) (.tmp 103) 28 30 (.agg #[(.int .i64 0), (.slice none 0 0)]) 32 rfl Try.underlying28 info30 rfl (by decide) (by omega) (v 2) x [z] (some ⟨g4, 0, none⟩) 1 1 (fun _ => True) (fun k => k < w.heap.size ∨ k = g4) e2 e4 hN (F_one hb hlz hCz f3) hokp (fun _ _ => trivial) hb hb.size (by omega) ?_
  intro v1 w1 hN1 hb1 hg1 hat
  refine hK _ _ trivial hb1 trivial ?_
  have n6 : d 6 = false := by cases h6 : d 6 with | false => rfl | true => rw [hj.d6 h6] at hd0; cases hd0
  constructor
  all_goals simp only [upd_same, yac_ _ _ (show (0 : Nat) ≠ 5 by decide), yac_ _ _ (show (2 : Nat) ≠ 5 by decide), yac_ _ _ (show (4 : Nat) ≠ 5 by decide), yac_ _ _ (show (6 : Nat) ≠ 5 by decide)]
  ·exact fun _ h2 => by rw [d2] at h2; cases h2
  ·exact fun _ h5 => by cases h5
  ·exact fun _ h5 => by cases h5
  ·exact fun _ => hN1
  ·exact fun h6 => by rw [n6] at h6; cases h6
  ·exact hj.d2
  ·exact fun _ => ⟨d2, d4⟩
  ·exact fun h6 => by rw [n6] at h6; cases h6
 refine DetJ.cons (o := { dst := some 17, op := Op.assign (Operand.tmp 104), type := 28, pos := "law.go:177", after := #[{ on := 5, ground := Ground.data }, { on := 5, ground := Ground.chain }, { on := 0, ground := Ground.phase }, { on := 1, ground := Ground.phase }, { on := 2, ground := Ground.phase }, { on := 3, ground := Ground.phase }, { on := 4, ground := Ground.phase }, { on := 5, ground := Ground.phase }], guard := none }) (fun _ _ => True) rfl (by decide) (fun _ _ _ _ _ => trivial) (fun v d T w' hb hj hd0 hd hdd hB K hK => ?s6) ?r6
 case s6 =>
  obtain ⟨d5, e5⟩ := hdd 5 (by kernel_rfl)
  replace e5 : T.getD 104 undef = v 5 := e5 104 rfl
  rw [if_pos (yad_ _ rfl)]
  have hJ6 : MoreJ w x z Z cz (upd v 6 (v 5)) (upd d 6 true) w' := by
   constructor
   all_goals simp only [upd_same, yac_ _ _ (show (0 : Nat) ≠ 6 by decide), yac_ _ _ (show (2 : Nat) ≠ 6 by decide), yac_ _ _ (show (4 : Nat) ≠ 6 by decide), yac_ _ _ (show (5 : Nat) ≠ 6 by decide)]
   ·exact hj.j0
   ·exact hj.j2
   ·exact hj.j4
   ·exact hj.j5
   ·exact fun _ => trivial
   ·exact hj.d2
   ·exact hj.d5
   ·exact fun _ => d5
  have hK6 := hK _ _ trivial hb trivial hJ6
  clear hd hB hdd hJ6 hK
  go_simp
  exact hK6
 refine DetJ.done [some 99, some 100, some 101, some 102, some 103, some 104, some 17] (by kernel_rfl) rfl rfl ?_
 intro v d w' hb hv hall hJ
 exact h v w' hb (by rw [hJ.j6 (hall 6 (by decide))]; exact hJ.j5 (hall 5 (by decide)))
set_option maxHeartbeats 4000000 in
set_option maxRecDepth 100000 in
theorem OrderMulti_r26 {id : Nat} {a : Act} {w : World} {Q : Exit → Act → World → Prop} {x : List S30} {A : Option Addr} {c g : Nat} {z : S30} {Z : Option Addr} {cz : Nat}
  (hr : regionOk #[{ dst := some 105, op := Op.buildSlice 28 0 #[], type := 28, pos := "law.go:178", after := #[], guard := none }, { dst := some 106, op := Op.move (Operand.tmp 10), type := 28, pos := "law.go:178", after := #[], guard := none }, { dst := some 107, op := Op.call { callee := Callee.builtin Builtin.append, args := #[Operand.tmp 105, Operand.tmp 106], argTypes := #[28, 28] }, type := 28, pos := "law.go:178", after := #[{ on := 0, ground := Ground.data }, { on := 1, ground := Ground.data }], guard := none }, { dst := some 108, op := Op.load 30 (Operand.tmp 15), type := 30, pos := "law.go:178", after := #[], guard := none }, { dst := some 109, op := Op.buildSlice 28 1 #[(0, Operand.tmp 108)], type := 28, pos := "law.go:178", after := #[{ on := 3, ground := Ground.data }], guard := none }, { dst := some 110, op := Op.call { callee := Callee.builtin Builtin.append, args := #[Operand.tmp 107, Operand.tmp 109], argTypes := #[28, 28] }, type := 28, pos := "law.go:178", after := #[{ on := 2, ground := Ground.data }, { on := 4, ground := Ground.data }, { on := 2, ground := Ground.chain }], guard := none }, { dst := some 18, op := Op.assign (Operand.tmp 110), type := 28, pos := "law.go:178", after := #[{ on := 5, ground := Ground.data }, { on := 5, ground := Ground.chain }, { on := 0, ground := Ground.phase }, { on := 1, ground := Ground.phase }, { on := 2, ground := Ground.phase }, { on := 3, ground := Ground.phase }, { on := 4, ground := Ground.phase }, { on := 5, ground := Ground.phase }], guard := none }] a.tmps.size = true)
  (hT10 : a.tmps.getD 10 undef = .slice A x.length c) (hT15 : a.tmps.getD 15 undef = .pointer (some ⟨g, 0, none⟩)) (hX : w.heap[g]? = some (.cells #[.int .i64 z.f0, .slice Z z.f1.length cz] 30 (0, 0)))
  (hC : k30.C w A x.length x) (hlz : z.f1.length ≤ cz) (hCz : k30.C w Z z.f1.length z.f1) (hn : x.length ≤ 1000)
  (h : ∀ v w', Below w.heap.size w w' → OwnR w w' (v 6) (x ++ [z]) → Q .normal { tmps := layL [some 105, some 106, some 107, some 108, some 109, some 110, some 18] 0 v a.tmps, defers := a.defers } w') :
  (Code.region id #[{ dst := some 105, op := Op.buildSlice 28 0 #[], type := 28, pos := "law.go:178", after := #[], guard := none }, { dst := some 106, op := Op.move (Operand.tmp 10), type := 28, pos := "law.go:178", after := #[], guard := none }, { dst := some 107, op := Op.call { callee := Callee.builtin Builtin.append, args := #[Operand.tmp 105, Operand.tmp 106], argTypes := #[28, 28] }, type := 28, pos := "law.go:178", after := #[{ on := 0, ground := Ground.data }, { on := 1, ground := Ground.data }], guard := none }, { dst := some 108, op := Op.load 30 (Operand.tmp 15), type := 30, pos := "law.go:178", after := #[], guard := none }, { dst := some 109, op := Op.buildSlice 28 1 #[(0, Operand.tmp 108)], type := 28, pos := "law.go:178", after := #[{ on := 3, ground := Ground.data }], guard := none }, { dst := some 110, op := Op.call { callee := Callee.builtin Builtin.append, args := #[Operand.tmp 107, Operand.tmp 109], argTypes := #[28, 28] }, type := 28, pos := "law.go:178", after := #[{ on := 2, ground := Ground.data }, { on := 4, ground := Ground.data }, { on := 2, ground := Ground.chain }], guard := none }, { dst := some 18, op := Op.assign (Operand.tmp 110), type := 28, pos := "law.go:178", after := #[{ on := 5, ground := Ground.data }, { on := 5, ground := Ground.chain }, { on := 0, ground := Ground.phase }, { on := 1, ground := Ground.phase }, { on := 2, ground := Ground.phase }, { on := 3, ground := Ground.phase }, { on := 4, ground := Ground.phase }, { on := 5, ground := Ground.phase }], guard := none }] true).wp Try.prog Q a w := by
 have hmx : Try.prog.follows .mixedOrders = true := by kernel_rfl
 have hJo : ∀ i, i ∉ [0, 2, 4, 5, 6] → ∀ v d (w1 w2 : World) u, MoreJ w x z Z cz v d w1 → d i = false → Below w1.heap.size w1 w2 → MoreJ w x z Z cz (upd v i u) (upd d i true) w2 := MoreJ.other
 refine region_detJ (fun _ _ => True) (MoreJ w x z Z cz) 7 trivial (fun v => MoreJ.start w x z Z cz v _) hmx hr rfl ?_
 refine DetJ.cons (o := { dst := some 105, op := Op.buildSlice 28 0 #[], type := 28, pos := "law.go:178", after := #[], guard := none }) (fun _ _ => True) rfl (by decide) (fun _ _ _ _ _ => trivial) (fun v d T w' hb hj hd0 hd hdd hB K hK => ?s0) ?r0
 case s0 =>
  refine Kd.N_lit_step (a := { tmps := T, defers := a.defers }) k30 (w0 := w) w.heap.size 30 (yad_ _ rfl) rfl (xs := []) (inner := []) (ok := fun _ => True) (okp := fun _ => True) ?hrun ⟨rfl, fun i p hp => by simp at hp⟩ (fun _ _ => trivial) trivial hb hb.size (by decide) ?_
  case hrun => first | (go_simp; done) | (go_simp; rfl)
  intro v1 w1 hN hb1 hg1 hat
  have hbb : Below w'.heap.size w' w1 := ⟨hg1.os, hg1.tape, hg1.output, hg1.size, fun k hk => hg1.block k hk (by simp)⟩
  refine hK _ _ trivial hb1 trivial ?_
  obtain ⟨b, hb2, hbl⟩ := hat
  have n2 : d 2 = false := by cases h2 : d 2 with | false => rfl | true => rw [hj.d2 h2] at hd0; cases hd0
  have n5 : d 5 = false := by cases h5 : d 5 with | false => rfl | true => rw [(hj.d5 h5).1] at n2; cases n2
  have n6 : d 6 = false := by cases h6 : d 6 with | false => rfl | true => rw [hj.d6 h6] at n5; cases n5
  constructor
  all_goals simp only [upd_same, yac_ _ _ (show (2 : Nat) ≠ 0 by decide), yac_ _ _ (show (4 : Nat) ≠ 0 by decide), yac_ _ _ (show (5 : Nat) ≠ 0 by decide), yac_ _ _ (show (6 : Nat) ≠ 0 by decide)]
  ·exact fun _ _ => ⟨hN, b, hb2⟩
  ·exact fun h2 => by rw [n2] at h2; cases h2
  ·intro h4 h5
   obtain ⟨g4, e1, e2, e3, e4, e5⟩ := hj.j4 h4 h5
   exact ⟨g4, e1, e2, kB_ e3 hbb, (fun h2 => by rw [n2] at h2; cases h2), (fun _ _ he => by rw [hb2] at he; injection he with he; have := blk_lt e3; omega)⟩
  ·exact fun h5 => by rw [n5] at h5; cases h5
  ·exact fun h6 => by rw [n6] at h6; cases h6
  ·exact fun _ => trivial
  ·exact fun h5 => by rw [n5] at h5; cases h5
  ·exact fun h6 => by rw [n6] at h6; cases h6
 refine DetJ.is (o := { dst := some 106, op := Op.move (Operand.tmp 10), type := 28, pos := "law.go:178", after := #[], guard := none }) (u := .slice A x.length c) (fun _ _ _ => trivial) [0, 2, 4, 5, 6] hJo rfl (by decide) (by decide) (fun T w' hb hd hB K hK => ?s1) ?r1
 case s1 =>
  have e10 := (hB 10 (by kernel_rfl)).trans hT10
  rw [if_pos (yad_ _ rfl)]
  clear hd hB
  go_simp
  exact hK _ (Below.refl _ _)
 refine DetJ.cons (o := { dst := some 107, op := Op.call { callee := Callee.builtin Builtin.append, args := #[Operand.tmp 105, Operand.tmp 106], argTypes := #[28, 28] }, type := 28, pos := "law.go:178", after := #[{ on := 0, ground := Ground.data }, { on := 1, ground := Ground.data }], guard := none }) (fun _ _ => True) rfl (by decide) (fun _ _ _ _ _ => trivial) (fun v d T w' hb hj hd0 hd hdd hB K hK => ?s2) ?r2
 case s2 =>
  have e1 := hd 1 106 _ (by decide) (by kernel_rfl) rfl rfl
  replace e1 : T.getD 106 undef = .slice A x.length c := e1
  obtain ⟨d0, e0⟩ := hdd 0 (by kernel_rfl)
  replace e0 : T.getD 105 undef = v 0 := e0 105 rfl
  obtain ⟨hN, b, hb0⟩ := hj.j0 d0 hd0
  have hge := Kd.N_base hN b hb0
  refine Kd.N_append_rows_step (a := { tmps := T, defers := a.defers }) k30 (w0 := w) w.heap.size (yad_ _ rfl) (.tmp 105) (.tmp 106) 28 30 (.agg #[(.int .i64 0), (.slice none 0 0)]) 32 rfl Try.underlying28 info30 rfl (by decide) (by omega) (v 0) [] x A x.length c (fun _ => True) (fun k => k < w.heap.size) e0 e1 hN (F_old k30_heap hC hb) (fun k hk => ⟨trivial, fun he => by rw [hb0] at he; injection he with he; omega⟩) (fun _ _ => trivial) hb hb.size (by simp; omega) ?_
  intro v1 w1 hN1 hb1 hg1 hat
  rw [List.nil_append] at hN1
  refine hK _ _ trivial hb1 trivial ?_
  have n5 : d 5 = false := by cases h5 : d 5 with | false => rfl | true => rw [(hj.d5 h5).1] at hd0; cases hd0
  have n6 : d 6 = false := by cases h6 : d 6 with | false => rfl | true => rw [hj.d6 h6] at n5; cases n5
  constructor
  all_goals simp only [upd_same, yac_ _ _ (show (0 : Nat) ≠ 2 by decide), yac_ _ _ (show (4 : Nat) ≠ 2 by decide), yac_ _ _ (show (5 : Nat) ≠ 2 by decide), yac_ _ _ (show (6 : Nat) ≠ 2 by decide)]
  ·exact fun _ h2 => by cases h2
  ·exact fun _ _ => hN1
  ·intro h4 h5
   obtain ⟨g4, e1, e2, e3, e4, e5⟩ := hj.j4 h4 h5
   have hne := e5 d0 hd0
   refine ⟨g4, e1, e2, (hg1.block g4 (blk_lt e3) hne).trans e3, fun _ he => ?_, fun _ h2 => by cases h2⟩
   rcases hat with hat | ⟨b2, hb2, hl2⟩
   ·rw [hat] at he; exact hne he
   ·rw [hb2] at he; injection he with he; have := blk_lt e3; omega
  ·exact fun h5 => by rw [n5] at h5; cases h5
  ·exact fun h6 => by rw [n6] at h6; cases h6
  ·exact fun _ => d0
  ·exact fun h5 => by rw [n5] at h5; cases h5
  ·exact fun h6 => by rw [n6] at h6; cases h6
 refine DetJ.is (o := { dst := some 108, op := Op.load 30 (Operand.tmp 15), type := 30, pos := "law.go:178", after := #[], guard := none }) (u := .agg #[.int .i64 z.f0, .slice Z z.f1.length cz]) (fun _ _ _ => trivial) [0, 2, 4, 5, 6] hJo rfl (by decide) (by decide) (fun T w' hb hd hB K hK => ?s3) ?r3
 case s3 =>
  have e15 := (hB 15 (by kernel_rfl)).trans hT15
  have q0 : w'.cell? ⟨g, 0, none⟩ = some (.int .i64 z.f0) := (yaa_ (kB_ hX hb) 0).trans rfl
  have q1 : w'.cell? ⟨g, 1, none⟩ = some (.slice Z z.f1.length cz) := (yaa_ (kB_ hX hb) 1).trans rfl
  rw [if_pos (yad_ _ rfl)]
  clear hd hB
  go_simp
  exact hK _ (Below.refl _ _)
 refine DetJ.cons (o := { dst := some 109, op := Op.buildSlice 28 1 #[(0, Operand.tmp 108)], type := 28, pos := "law.go:178", after := #[{ on := 3, ground := Ground.data }], guard := none }) (fun _ _ => True) rfl (by decide) (fun _ _ _ _ _ => trivial) (fun v d T w' hb hj hd0 hd hdd hB K hK => ?s4) ?r4
 case s4 =>
  have e108 := hd 3 108 _ (by decide) (by kernel_rfl) rfl rfl
  replace e108 : T.getD 108 undef = _ := e108
  have z108 : T[108]?.getD undef = _ := Array.getD_eq_getD_getElem?.symm.trans e108
  rw [if_pos (yad_ _ rfl)]
  have hb4 : Below w'.heap.size w' (w'.alloc (.cells #[.int .i64 z.f0, .slice Z z.f1.length cz] 30)) := bA_ (Below.refl _ _) _
  have hJ4 : MoreJ w x z Z cz (upd v 4 (.slice (some ⟨w'.heap.size, 0, none⟩) 1 1)) (upd d 4 true) (w'.alloc (.cells #[.int .i64 z.f0, .slice Z z.f1.length cz] 30)) := by
   have n5 : d 5 = false := by cases h5 : d 5 with | false => rfl | true => rw [(hj.d5 h5).2] at hd0; cases hd0
   have n6 : d 6 = false := by cases h6 : d 6 with | false => rfl | true => rw [hj.d6 h6] at n5; cases n5
   constructor
   all_goals simp only [upd_same, yac_ _ _ (show (0 : Nat) ≠ 4 by decide), yac_ _ _ (show (2 : Nat) ≠ 4 by decide), yac_ _ _ (show (5 : Nat) ≠ 4 by decide), yac_ _ _ (show (6 : Nat) ≠ 4 by decide)]
   ·exact fun h0 h2 => ⟨Kd.N_below (hj.j0 h0 h2).1 hb4, (hj.j0 h0 h2).2⟩
   ·exact fun h2 h5 => Kd.N_below (hj.j2 h2 h5) hb4
   ·exact fun _ _ => ⟨_, rfl, hb.size, blk_new _ _, (fun h2 he => by have := Kd.N_lt (hj.j2 h2 n5) _ he.symm; omega), fun h0 h2 he => by have := Kd.N_lt (hj.j0 h0 h2).1 _ he.symm; omega⟩
   ·exact fun h5 => by rw [n5] at h5; cases h5
   ·exact fun h6 => by rw [n6] at h6; cases h6
   ·exact hj.d2
   ·exact fun h5 => by rw [n5] at h5; cases h5
   ·exact fun h6 => by rw [n6] at h6; cases h6
  have hK4 := hK _ _ trivial (hb.trans (hb4.mono hb.size)) trivial hJ4
  clear hd hB hdd hJ4 hK
  go_simp
  exact hK4
 refine DetJ.cons (o := { dst := some 110, op := Op.call { callee := Callee.builtin Builtin.append, args := #[Operand.tmp 107, Operand.tmp 109], argTypes := #[28, 28] }, type := 28, pos := "law.go:178", after := #[{ on := 2, ground := Ground.data }, { on := 4, ground := Ground.data }, { on := 2, ground := Ground.chain }], guard := none }) (fun _ _ => True) rfl (by decide) (fun _ _ _ _ _ => trivial) (fun v d T w' hb hj hd0 hd hdd hB K hK => ?s5) ?r5
 case s5 =>
  obtain ⟨d2, e2⟩ := hdd 2 (by kernel_rfl)
  replace e2 : T.getD 107 undef = v 2 := e2 107 rfl
  obtain ⟨d4, e4⟩ := hdd 4 (by kernel_rfl)
  replace e4 : T.getD 109 undef = v 4 := e4 109 rfl
  have hN := hj.j2 d2 hd0
  obtain ⟨g4, f1, f2, f3, f4, _⟩ := hj.j4 d4 hd0
  rw [f1] at e4
  have hokp : ∀ k, k < w.heap.size ∨ k = g4 → True ∧ some k ≠ (v 2).ownBlock := by
   intro k hk
   refine ⟨trivial, fun he => ?_⟩
   rcases hk with hk | rfl
   ·have := Kd.N_base hN k he.symm; omega
   ·exact f4 d2 he
  refine Kd.N_append_rows_step (a := { tmps := T, defers := a.defers }) k30 (w0 := w) w.heap.size (yad_ _ rfl) (.tmp 107) (.tmp 109) 28 30 (.agg #[(.int .i64 0), (.slice none 0 0)]) 32 rfl Try.underlying28 info30 rfl (by decide) (by omega) (v 2) x [z] (some ⟨g4, 0, none⟩) 1 1 (fun _ => True) (fun k => k < w.heap.size ∨ k = g4) e2 e4 hN (F_one hb hlz hCz f3) hokp (fun _ _ => trivial) hb hb.size (by omega) ?_
  intro v1 w1 hN1 hb1 hg1 hat
  refine hK _ _ trivial hb1 trivial ?_
  have n6 : d 6 = false := by cases h6 : d 6 with | false => rfl | true => rw [hj.d6 h6] at hd0; cases hd0
  constructor
  all_goals simp only [upd_same, yac_ _ _ (show (0 : Nat) ≠ 5 by decide), yac_ _ _ (show (2 : Nat) ≠ 5 by decide), yac_ _ _ (show (4 : Nat) ≠ 5 by decide), yac_ _ _ (show (6 : Nat) ≠ 5 by decide)]
  ·exact fun _ h2 => by rw [d2] at h2; cases h2
  ·exact fun _ h5 => by cases h5
  ·exact fun _ h5 => by cases h5
  ·exact fun _ => hN1
  ·exact fun h6 => by rw [n6] at h6; cases h6
  ·exact hj.d2
  ·exact fun _ => ⟨d2, d4⟩
  ·exact fun h6 => by rw [n6] at h6; cases h6
 refine DetJ.cons (o := { dst := some 18, op := Op.assign (Operand.tmp 110), type := 28, pos := "law.go:178", after := #[{ on := 5, ground := Ground.data }, { on := 5, ground := Ground.chain }, { on := 0, ground := Ground.phase }, { on := 1, ground := Ground.phase }, { on := 2, ground := Ground.phase }, { on := 3, ground := Ground.phase }, { on := 4, ground := Ground.phase }, { on := 5, ground := Ground.phase }], guard := none }) (fun _ _ => True) rfl (by decide) (fun _ _ _ _ _ => trivial) (fun v d T w' hb hj hd0 hd hdd hB K hK => ?s6) ?r6
 case s6 =>
  obtain ⟨d5, e5⟩ := hdd 5 (by kernel_rfl)
  replace e5 : T.getD 110 undef = v 5 := e5 110 rfl
  rw [if_pos (yad_ _ rfl)]
  have hJ6 : MoreJ w x z Z cz (upd v 6 (v 5)) (upd d 6 true) w' := by
   constructor
   all_goals simp only [upd_same, yac_ _ _ (show (0 : Nat) ≠ 6 by decide), yac_ _ _ (show (2 : Nat) ≠ 6 by decide), yac_ _ _ (show (4 : Nat) ≠ 6 by decide), yac_ _ _ (show (5 : Nat) ≠ 6 by decide)]
   ·exact hj.j0
   ·exact hj.j2
   ·exact hj.j4
   ·exact hj.j5
   ·exact fun _ => trivial
   ·exact hj.d2
   ·exact hj.d5
   ·exact fun _ => d5
  have hK6 := hK _ _ trivial hb trivial hJ6
  clear hd hB hdd hJ6 hK
  go_simp
  exact hK6
 refine DetJ.done [some 105, some 106, some 107, some 108, some 109, some 110, some 18] (by kernel_rfl) rfl rfl ?_
 intro v d w' hb hv hall hJ
 exact h v w' hb (by rw [hJ.j6 (hall 6 (by decide))]; exact hJ.j5 (hall 5 (by decide)))
end
section
def rotL (a : List S30) (n : Nat) : List S30 := (List.range a.length).map fun i => a.getD ((i + n) % a.length) z30
theorem rotL_len (a : List S30) (n : Nat) : (rotL a n).length = a.length := by simp [rotL]
theorem rotL_at (a : List S30) (n k : Nat) (hk : k < a.length) (t : S30) (ht : a[(k + n) % a.length]? = some t) : (rotL a n)[k]? = some t := by
 unfold rotL
 rw [List.getElem?_map, List.getElem?_range hk, Option.map_some, List.getD_eq_getElem?_getD, ht]
 rfl
theorem rotL_mem {a : List S30} {n : Nat} {x : S30} (h : x ∈ rotL a n) : x ∈ a := by
 unfold rotL at h
 rw [List.mem_map] at h
 obtain ⟨i, hi, rfl⟩ := h
 rw [List.mem_range] at hi
 have hm : (i + n) % a.length < a.length := Nat.mod_lt _ (by omega)
 rw [List.getD_eq_getElem?_getD, List.getElem?_eq_getElem hm]
 exact List.getElem_mem hm
theorem rotL_eq (a : List S30) (n : Nat) (h0 : 0 < a.length) : rotL a n = a.drop (n % a.length) ++ a.take (n % a.length) := by
 have hr : n % a.length < a.length := Nat.mod_lt _ h0
 have hd := Nat.div_add_mod n a.length
 refine List.ext_getElem? fun i => ?_
 have hlen : (a.drop (n % a.length) ++ a.take (n % a.length)).length = a.length := by simp; omega
 rcases Nat.lt_or_ge i a.length with h | h
 ·have hm : (i + n) % a.length < a.length := Nat.mod_lt _ h0
  rw [rotL_at a n i h _ (List.getElem?_eq_getElem hm), ← List.getElem?_eq_getElem hm]
  have e0 : (i + n) % a.length = (i + n % a.length) % a.length := by rw [Nat.add_mod_mod]
  rcases Nat.lt_or_ge i (a.length - n % a.length) with h1 | h1
  ·rw [List.getElem?_append_left (by simp; omega), List.getElem?_drop, e0, Nat.mod_eq_of_lt (by omega), Nat.add_comm]
  ·rw [List.getElem?_append_right (by simp; omega), List.getElem?_take_of_lt (by simp; omega), e0, Nat.mod_eq_sub_mod (by omega), Nat.mod_eq_of_lt (by omega), List.length_drop]
   congr 1
   omega
 ·rw [List.getElem?_eq_none (by rw [rotL_len]; exact h), List.getElem?_eq_none (by rw [hlen]; exact h)]
theorem cnt_rot (a : List S30) (n : Nat) (x : S30) : cnt (rotL a n) x = cnt a x := by
 rcases Nat.eq_zero_or_pos a.length with h0 | h0
 ·have : a = [] := List.eq_nil_of_length_eq_zero h0
  subst this
  simp [rotL]
 ·rw [rotL_eq a n h0, cnt_append, Nat.add_comm, ← cnt_append, List.take_append_drop]
set_option maxHeartbeats 8000000 in
set_option maxRecDepth 100000 in
theorem OrderMulti_walk (a b : List S24) (t : S24) (n : Nat) (A B C : Option Addr) (ca cb cc : Nat) (w : World) (hn : n < 256) (hA : k24.C w A a.length a) (hca : a.length ≤ ca) (hB : k24.C w B b.length b) (hcb : b.length ≤ cb) (hC : k24.C w C t.f1.length t.f1) (hcc : t.f1.length ≤ cc) (hWa : ∀ x ∈ a, Wd x) :
  Calls Try.prog 16 #[.slice A a.length ca, .slice B b.length cb, .agg #[.int .i64 t.f0, .slice C t.f1.length cc], .int .u8 n] w fun e w' => e = .returned (.bool true) ∧ Below w.heap.size w w' := by
 have hmx : Try.prog.follows .mixedOrders = true := by kernel_rfl
 obtain ⟨rc, hrc, hr1, hr2, hr3⟩ := Small_spec 9 t 10 8 (by decide) (by decide) (by decide) (by decide)
 obtain ⟨kc, ec⟩ := hrc.rounds
 obtain ⟨kz, hal⟩ := alive14.rounds
 have FC := Az_.mk ec
 have HWa := Az_.mk hWa
 have hbA : Az_ (∀ w1, Below w.heap.size w w1 → k24.C w1 A a.length a) := ⟨fun w1 h => Kd.C_below hA h⟩
 have hbB : Az_ (∀ w1, Below w.heap.size w w1 → k24.C w1 B b.length b) := ⟨fun w1 h => Kd.C_below hB h⟩
 have hbC : Az_ (∀ w1, Below w.heap.size w w1 → k24.C w1 C t.f1.length t.f1) := ⟨fun w1 h => Kd.C_below hC h⟩
 clear hA hB hC hrc ec hWa
 go_enter Try.func16, Try.ntmps16
 by_cases ha : 5 < a.length
 ·have d0 : decide (5 < (a.length : Int)) = true := decide_eq_true (by omega)
  clear ha hr1 hr2 hr3
  go_wp2_with (first | (go_at_call 54; refine (soriteslaw14_alive.calls kz true _ hal).mono ?_; rintro e w1 ⟨rfl, hb⟩; have HB1 := Az_.mk (HB0.out.trans (hb.mono HB0.out.size)); have BK1 := Az_.mk (kB_ BK0.out hb); obtain ⟨c0, c1, _, _⟩ := cz2_ BK1; clear hb) | ((with_reducible refine gate_dst (N := 6) rfl ?_); refine box_event ?hg (N := 6) ?hd (cs := #[.int .i64 t.f0, .slice C t.f1.length cc]) (t := 24) ?hr ?_; (case hd => rfl); (case hg => rfl); (case hr => first | (go_simp; done) | (go_simp; rfl)); intro gz hgz w0 hbox hb0; have BK0 := Az_.mk hbox; have HB0 := Az_.mk hb0; clear hb0 hbox hgz))
  go_ret
  exact ⟨rfl, HB1.out⟩
 have d0 : decide (5 < (a.length : Int)) = false := decide_eq_false (by omega)
 by_cases hbl : 5 < b.length
 ·have d1 : decide (5 < (b.length : Int)) = true := decide_eq_true (by omega)
  clear ha hbl hr1 hr2 hr3
  go_wp2_with (first | (go_at_call 54; refine (soriteslaw14_alive.calls kz true _ hal).mono ?_; rintro e w1 ⟨rfl, hb⟩; have HB1 := Az_.mk (HB0.out.trans (hb.mono HB0.out.size)); have BK1 := Az_.mk (kB_ BK0.out hb); obtain ⟨c0, c1, _, _⟩ := cz2_ BK1; clear hb) | ((with_reducible refine gate_dst (N := 6) rfl ?_); refine box_event ?hg (N := 6) ?hd (cs := #[.int .i64 t.f0, .slice C t.f1.length cc]) (t := 24) ?hr ?_; (case hd => rfl); (case hg => rfl); (case hr => first | (go_simp; done) | (go_simp; rfl)); intro gz hgz w0 hbox hb0; have BK0 := Az_.mk hbox; have HB0 := Az_.mk hb0; clear hb0 hbox hgz))
  go_ret
  exact ⟨rfl, HB1.out⟩
 have d1 : decide (5 < (b.length : Int)) = false := decide_eq_false (by omega)
 by_cases hneg : rc < 0
 ·have d2 : decide (rc < 0) = true := decide_eq_true hneg
  clear ha hbl hneg hr1 hr2 hr3
  go_wp2_with (first | (go_at_call 50; refine (soriteslaw06_Small.calls kc _ _ _ _ 10 8 rc w1 (hbC.out _ HB1.out) hcc FC.out).mono ?_; rintro e w2 ⟨rfl, hb⟩; have HB2 := Az_.mk (HB1.out.trans (hb.mono HB1.out.size)); have BK2 := Az_.mk (kB_ BK1.out hb); clear hb) | (go_at_call 54; refine (soriteslaw14_alive.calls kz true _ hal).mono ?_; rintro e w1 ⟨rfl, hb⟩; have HB1 := Az_.mk (HB0.out.trans (hb.mono HB0.out.size)); have BK1 := Az_.mk (kB_ BK0.out hb); obtain ⟨c0, c1, _, _⟩ := cz2_ BK1; clear hb) | ((with_reducible refine gate_dst (N := 6) rfl ?_); refine box_event ?hg (N := 6) ?hd (cs := #[.int .i64 t.f0, .slice C t.f1.length cc]) (t := 24) ?hr ?_; (case hd => rfl); (case hg => rfl); (case hr => first | (go_simp; done) | (go_simp; rfl)); intro gz hgz w0 hbox hb0; have BK0 := Az_.mk hbox; have HB0 := Az_.mk hb0; clear hb0 hbox hgz))
  go_ret
  exact ⟨rfl, HB2.out⟩
 have d2 : decide (rc < 0) = false := decide_eq_false hneg
 have HOKC := Az_.mk (And.intro (hr3 (by omega)).1 (show wt t ≤ 10 by have := (hr3 (by omega)).2; omega))
 have HAL := Az_.mk (And.intro ha hbl)
 clear ha hbl hneg hr1 hr2 hr3
 go_wp2_with (first | (go_at_call 50; refine (soriteslaw06_Small.calls kc _ _ _ _ 10 8 rc w1 (hbC.out _ HB1.out) hcc FC.out).mono ?_; rintro e w2 ⟨rfl, hb⟩; have HB2 := Az_.mk (HB1.out.trans (hb.mono HB1.out.size)); have BK2 := Az_.mk (kB_ BK1.out hb); clear hb) | (go_at_call 54; refine (soriteslaw14_alive.calls kz true _ hal).mono ?_; rintro e w1 ⟨rfl, hb⟩; have HB1 := Az_.mk (HB0.out.trans (hb.mono HB0.out.size)); have BK1 := Az_.mk (kB_ BK0.out hb); obtain ⟨c0, c1, _, _⟩ := cz2_ BK1; clear hb) | ((with_reducible refine gate_dst (N := 6) rfl ?_); refine box_event ?hg (N := 6) ?hd (cs := #[.int .i64 t.f0, .slice C t.f1.length cc]) (t := 24) ?hr ?_; (case hd => rfl); (case hg => rfl); (case hr => first | (go_simp; done) | (go_simp; rfl)); intro gz hgz w0 hbox hb0; have BK0 := Az_.mk hbox; have HB0 := Az_.mk hb0; clear hb0 hbox hgz))
 clear d0 d1 d2 c0 c1
 obtain ⟨R, hR⟩ : ∃ R, R = rotL a n := ⟨_, rfl⟩
 have HR := Az_.mk hR
 clear hR
 go_loopw [9, 11] (fun v i wra => ∃ (u : Value) (k : Nat), u = v ∧ k ≤ a.length ∧ i = .int .i64 k ∧ Az_ (∀ x, x ∈ a.take k → ok x ∧ wt x ≤ 10) ∧ Az_ (Own30 w2 wra v (R.take k))) (fun v i wra => a.length - (intOf i).toNat)
 case atStart => exact ⟨_, 0, rfl, Nat.zero_le _, rfl, ⟨fun x hx => by simp at hx⟩, ⟨by rw [List.take_zero]; exact Own30.nil _⟩⟩
 rename World => wra
 obtain ⟨u, k, hu, hk, rfl, hs, ho⟩ := hrel
 subst hu
 have hbw := Az_.mk (show Below w.heap.size w wra from HB2.out.trans (ho.out.2.mono HB2.out.size))
 by_cases hlt : k < a.length
 ·obtain ⟨t, ht0⟩ : ∃ t, a[k]? = some t := ⟨_, List.getElem?_eq_getElem hlt⟩
  have ht := Az_.mk ht0
  obtain ⟨r, hr, hr1, hr2, hr3⟩ := Small_spec 9 t 10 8 (by decide) (by decide) (by decide) (by decide)
  obtain ⟨k2, e2⟩ := hr.rounds
  obtain ⟨ad, Bk, ek, hAe, x0, x1, hle, hCk⟩ := term_at (hbA.out _ hbw.out) k t ht0
  subst hAe
  have hcl := Az_.mk (soriteslaw06_Small.calls k2 _ _ _ _ 10 8 r wra hCk hle e2)
  clear hCk hle e2 hr ht0
  by_cases hneg : r < 0
  ·have dn : decide (r < 0) = true := decide_eq_true hneg
   clear hneg hr1 hr2 hr3
   go_wp2_with (go_at_call 50; refine hcl.out.mono ?_; rintro e w3 ⟨rfl, hb⟩; have hB3 := Az_.mk (hbw.out.trans (hb.mono hbw.out.size)); clear hb)
   go_ret
   exact ⟨rfl, hB3.out⟩
  ·have dn : decide (r < 0) = false := decide_eq_false hneg
   have hok := hr3 (by omega)
   have HOKt := Az_.mk (And.intro hok.1 (show wt t ≤ 10 by omega))
   clear hneg hr1 hr2 hr3 hok
   have hml : (k + n) % a.length < a.length := Nat.mod_lt _ (by omega)
   obtain ⟨t2, ht2⟩ : ∃ t2, a[(k + n) % a.length]? = some t2 := ⟨_, List.getElem?_eq_getElem hml⟩
   have HT2 := Az_.mk ht2
   have HR2 := Az_.mk (show R[k]? = some t2 from by rw [HR.out]; exact rotL_at a n k hlt t2 ht2)
   obtain ⟨k3, e3⟩ := (Of_wide t2 (HWa.out t2 (List.mem_of_getElem? ht2))).rounds
   have HOK := Az_.mk (And.intro e3 trivial)
   have h6 := HAL.out.1
   have hsum : wrap64 ((k : Int) + (n : Int)) = ((k + n : Nat) : Int) := by unfold wrap64; omega
   have hne : ((a.length : Nat) : Int) ≠ 0 := by omega
   have hmi0 : (0 : Int) ≤ ((k : Int) + (n : Int)) % ((a.length : Nat) : Int) := Int.emod_nonneg _ hne
   have hmi1 : ((k : Int) + (n : Int)) % ((a.length : Nat) : Int) < ((a.length : Nat) : Int) := Int.emod_lt_of_pos _ (by omega)
   have hmi2 : (((k : Int) + (n : Int)) % ((a.length : Nat) : Int)).toNat = (k + n) % a.length := by rw [← Int.natCast_add, ← Int.natCast_emod, Int.toNat_natCast]
   clear e3 ht2 h6
   go_wp2_with (first | ((with_reducible refine gate_builtin (b := .append) (xs := #[.tmp 46, .tmp 58]) rfl ?_); at_builtin; refine Kd.N_append k30 (w0 := w2) w2.heap.size rfl (.tmp 46) (.tmp 58) 28 30 (.agg #[(.int .i64 0), (.slice none 0 0)]) 32 rfl Try.underlying28 info30 rfl (by decide) (by omega) u (R.take k) t2 [.int .i64 t2.f0, .slice Ao t2.f1.length co] (fun k_ => w2.heap.size ≤ k_) (fun k_ => w2.heap.size ≤ k_ ∧ some k_ ≠ u.ownBlock) rfl rfl hEL.out (fun _ hk => hk) (fun _ hk => Nat.le_trans HO4.out.2.size hk) HO4.out.1 HO4.out.2 HO4.out.2.size (by have := List.length_take_le k R; have := HAL.out.1; omega) ?_; intro v5 w5 ho5 hb5 _ _; have HO5 := Az_.mk (And.intro ho5 hb5); clear ho5 hb5) | (go_at_call 22; refine (soriteslaw06_Of.calls k3 _ _ _ t2.f1 t2.f0 t2.f1 _ HC'.out.2 HC'.out.1 HOK.out.1).mono ?_; rintro e w4 ⟨v1, rfl, hR, hb⟩; obtain ⟨Ao, co, rfl, _⟩ := Kd.R_V (base' := 0) hR; have hEL := Az_.mk (HO3.out.elem hR).2.2; have HO4 := Az_.mk (HO3.out.below hb); clear hR hb) | (go_at_call 50; refine hcl.out.mono ?_; rintro e w3 ⟨rfl, hb⟩; have hB3 := Az_.mk (hbw.out.trans (hb.mono hbw.out.size)); have HO3 := Az_.mk (ho.out.below hb); clear hb; obtain ⟨ad', B', e', hAe', y0, y1, hle', hC'⟩ := term_at (hbA.out w3 hB3.out) ((k + n) % a.length) t2 HT2.out; injection hAe' with hAe'; subst hAe'; have HC' := Az_.mk (And.intro hle' hC'); clear hle' hC'))
   go_roundw
   case rel =>
    have h6 := HAL.out.1
    refine ⟨_, k + 1, rfl, by omega, by rw [wrap_nat k (by omega)], ⟨fun x hx => ?_⟩, ⟨?_⟩⟩
    ·rw [List.take_add_one, ht.out] at hx
     rcases List.mem_append.1 hx with h | h
     ·exact hs.out x h
     ·simp at h; rw [h]; exact HOKt.out
    ·rw [List.take_add_one, HR2.out]
     exact HO5.out
   case measure =>
    have h6 := HAL.out.1
    rw [wrap_nat k (by omega)]
    simp [intOf]; omega
 have hke : k = a.length := by omega
 subst hke
 have hs' := hs.out
 rw [List.take_length] at hs'
 have HSa := Az_.mk hs'
 have ho' := ho.out
 rw [show R.take a.length = R from List.take_of_length_le (by rw [HR.out, rotL_len]; exact Nat.le_refl _)] at ho'
 obtain ⟨Xa, cxa, hu, hcxa, hX⟩ := ho'.reads
 subst hu
 have HXa := Az_.mk hX
 have HBa := hbw
 have HOa := Az_.mk ho.out.2
 clear hlt hk ho ho' hX hbw hs hs'
 go_wp2
 go_loopw [10, 12] (fun v i wrb => ∃ (u : Value) (k : Nat), u = v ∧ k ≤ b.length ∧ i = .int .i64 k ∧ Az_ (∀ x, x ∈ b.take k → ok x ∧ wt x ≤ 10) ∧ Az_ (Own30 wra wrb v (b.take k))) (fun v i wrb => b.length - (intOf i).toNat)
 case atStart => exact ⟨_, 0, rfl, Nat.zero_le _, rfl, ⟨fun x hx => by simp at hx⟩, ⟨by rw [List.take_zero]; exact Own30.nil _⟩⟩
 rename World => wrb
 obtain ⟨u, k, hu, hk, rfl, hs, ho⟩ := hrel
 subst hu
 have hbw := Az_.mk (show Below w.heap.size w wrb from HBa.out.trans (ho.out.2.mono HBa.out.size))
 by_cases hlt : k < b.length
 ·obtain ⟨t, ht0⟩ : ∃ t, b[k]? = some t := ⟨_, List.getElem?_eq_getElem hlt⟩
  have ht := Az_.mk ht0
  obtain ⟨r, hr, hr1, hr2, hr3⟩ := Small_spec 9 t 10 8 (by decide) (by decide) (by decide) (by decide)
  obtain ⟨k2, e2⟩ := hr.rounds
  obtain ⟨ad, Bk, ek, hAe, x0, x1, hle, hCk⟩ := term_at (hbB.out _ hbw.out) k t ht0
  subst hAe
  have hcl := Az_.mk (soriteslaw06_Small.calls k2 _ _ _ _ 10 8 r wrb hCk hle e2)
  clear hCk hle e2 hr ht0
  by_cases hneg : r < 0
  ·have dn : decide (r < 0) = true := decide_eq_true hneg
   clear hneg hr1 hr2 hr3
   go_wp2_with (go_at_call 50; refine hcl.out.mono ?_; rintro e w3 ⟨rfl, hb⟩; have hB3 := Az_.mk (hbw.out.trans (hb.mono hbw.out.size)); clear hb)
   go_ret
   exact ⟨rfl, hB3.out⟩
  ·have dn : decide (r < 0) = false := decide_eq_false hneg
   have hok := hr3 (by omega)
   have HOKt := Az_.mk (And.intro hok.1 (show wt t ≤ 10 by omega))
   clear hneg hr1 hr2 hr3 hok
   obtain ⟨t2, ht2⟩ : ∃ t2, t2 = t := ⟨_, rfl⟩
   have HT2 := Az_.mk (show b[k]? = some t2 from by rw [ht2]; exact ht.out)
   have HR2 := Az_.mk (show b[k]? = some t2 from by rw [ht2]; exact ht.out)
   obtain ⟨k3, e3⟩ := (Of_spec t2 (by rw [ht2]; exact HOKt.out.1)).rounds
   have HOK := Az_.mk (And.intro e3 trivial)
   clear e3
   subst ht2
   go_wp2_with (first | ((with_reducible refine gate_builtin (b := .append) (xs := #[.tmp 72, .tmp 78]) rfl ?_); at_builtin; refine Kd.N_append k30 (w0 := wra) wra.heap.size rfl (.tmp 72) (.tmp 78) 28 30 (.agg #[(.int .i64 0), (.slice none 0 0)]) 32 rfl Try.underlying28 info30 rfl (by decide) (by omega) u (b.take k) t2 [.int .i64 t2.f0, .slice Ao t2.f1.length co] (fun k_ => wra.heap.size ≤ k_) (fun k_ => wra.heap.size ≤ k_ ∧ some k_ ≠ u.ownBlock) rfl rfl hEL.out (fun _ hk => hk) (fun _ hk => Nat.le_trans HO4.out.2.size hk) HO4.out.1 HO4.out.2 HO4.out.2.size (by have := List.length_take_le k b; have := HAL.out.2; omega) ?_; intro v5 w5 ho5 hb5 _ _; have HO5 := Az_.mk (And.intro ho5 hb5); clear ho5 hb5) | (go_at_call 22; refine (soriteslaw06_Of.calls k3 _ _ _ t2.f1 t2.f0 t2.f1 _ HC'.out.2 HC'.out.1 HOK.out.1).mono ?_; rintro e w4 ⟨v1, rfl, hR, hb⟩; obtain ⟨Ao, co, rfl, _⟩ := Kd.R_V (base' := 0) hR; have hEL := Az_.mk (HO3.out.elem hR).2.2; have HO4 := Az_.mk (HO3.out.below hb); clear hR hb) | (go_at_call 50; refine hcl.out.mono ?_; rintro e w3 ⟨rfl, hb⟩; have hB3 := Az_.mk (hbw.out.trans (hb.mono hbw.out.size)); have HO3 := Az_.mk (ho.out.below hb); clear hb; obtain ⟨ad', B', e', hAe', y0, y1, hle', hC'⟩ := term_at (hbB.out w3 hB3.out) (k) t2 HT2.out; injection hAe' with hAe'; subst hAe'; have HC' := Az_.mk (And.intro hle' hC'); clear hle' hC'))
   go_roundw
   case rel =>
    have h6 := HAL.out.2
    refine ⟨_, k + 1, rfl, by omega, by rw [wrap_nat k (by omega)], ⟨fun x hx => ?_⟩, ⟨?_⟩⟩
    ·rw [List.take_add_one, ht.out] at hx
     rcases List.mem_append.1 hx with h | h
     ·exact hs.out x h
     ·simp at h; rw [h]; exact HOKt.out
    ·rw [List.take_add_one, HR2.out]
     exact HO5.out
   case measure =>
    have h6 := HAL.out.2
    rw [wrap_nat k (by omega)]
    simp [intOf]; omega
 have hke : k = b.length := by omega
 subst hke
 have hs' := hs.out
 rw [List.take_length] at hs'
 have HSb := Az_.mk hs'
 have ho' := ho.out
 rw [List.take_length] at ho'
 obtain ⟨Xb, cxb, hu, hcxb, hX⟩ := ho'.reads
 subst hu
 have HXb := Az_.mk hX
 have HBb := hbw
 have HOb := Az_.mk ho.out.2
 clear hlt hk ho ho' hX hbw hs hs'
 go_wp2
 go_loopw [13, 14] (fun v i wrp => ∃ (u : Value) (k : Nat), u = v ∧ k ≤ a.length ∧ i = .int .i64 k ∧ Az_ (Own30 wrb wrp v (a.take k))) (fun v i wrp => a.length - (intOf i).toNat)
 case atStart => exact ⟨_, 0, rfl, Nat.zero_le _, rfl, ⟨by rw [List.take_zero]; exact Own30.nil _⟩⟩
 rename World => wrp
 obtain ⟨u, k, hu, hk, rfl, ho⟩ := hrel
 subst hu
 have hbw := Az_.mk (show Below w.heap.size w wrp from HBb.out.trans (ho.out.2.mono HBb.out.size))
 by_cases hlt : k < a.length
 ·obtain ⟨t2, ht0⟩ : ∃ t, a[k]? = some t := ⟨_, List.getElem?_eq_getElem hlt⟩
  have HR2 := Az_.mk ht0
  obtain ⟨ad, Bk, ek, hAe, x0, x1, hle, hCk⟩ := term_at (hbA.out _ hbw.out) k t2 ht0
  subst hAe
  obtain ⟨k3, e3⟩ := (Of_spec t2 (HSa.out t2 (List.mem_of_getElem? ht0)).1).rounds
  have HOK := Az_.mk (And.intro e3 trivial)
  have HC' := Az_.mk (And.intro hle hCk)
  have HO3 := ho
  clear hCk hle e3 ht0
  ·go_wp2_with (first | ((with_reducible refine gate_builtin (b := .append) (xs := #[.tmp 86, .tmp 92]) rfl ?_); at_builtin; refine Kd.N_append k30 (w0 := wrb) wrb.heap.size rfl (.tmp 86) (.tmp 92) 28 30 (.agg #[(.int .i64 0), (.slice none 0 0)]) 32 rfl Try.underlying28 info30 rfl (by decide) (by omega) u (a.take k) t2 [.int .i64 t2.f0, .slice Ao t2.f1.length co] (fun k_ => wrb.heap.size ≤ k_) (fun k_ => wrb.heap.size ≤ k_ ∧ some k_ ≠ u.ownBlock) rfl rfl hEL.out (fun _ hk => hk) (fun _ hk => Nat.le_trans HO4.out.2.size hk) HO4.out.1 HO4.out.2 HO4.out.2.size (by have := List.length_take_le k a; have := HAL.out.1; omega) ?_; intro v5 w5 ho5 hb5 _ _; have HO5 := Az_.mk (And.intro ho5 hb5); clear ho5 hb5) | (go_at_call 22; refine (soriteslaw06_Of.calls k3 _ _ _ t2.f1 t2.f0 t2.f1 _ HC'.out.2 HC'.out.1 HOK.out.1).mono ?_; rintro e w4 ⟨v1, rfl, hR, hb⟩; obtain ⟨Ao, co, rfl, _⟩ := Kd.R_V (base' := 0) hR; have hEL := Az_.mk (HO3.out.elem hR).2.2; have HO4 := Az_.mk (HO3.out.below hb); clear hR hb))
   go_roundw
   case rel =>
    have h6 := HAL.out.1
    refine ⟨_, k + 1, rfl, by omega, by rw [wrap_nat k (by omega)], ⟨?_⟩⟩
    ·rw [List.take_add_one, HR2.out]
     exact HO5.out
   case measure =>
    have h6 := HAL.out.1
    rw [wrap_nat k (by omega)]
    simp [intOf]; omega
 have hke : k = a.length := by omega
 subst hke
 have ho' := ho.out
 rw [List.take_length] at ho'
 obtain ⟨Xp, cxp, hu, hcxp, hX⟩ := ho'.reads
 subst hu
 have HXp := Az_.mk hX
 have HBp := hbw
 have HOp := Az_.mk ho.out.2
 clear hlt hk ho ho' hX hbw
 have BKp := Az_.mk (kB_ (kB_ (kB_ BK2.out HOa.out) HOb.out) HOp.out)
 obtain ⟨c0, c1, _, _⟩ := cz2_ BKp
 obtain ⟨kd, ed⟩ := (Of_spec t HOKC.out.1).rounds
 have FO := Az_.mk ed
 have KXa : Az_ (∀ W, Below wrp.heap.size wrp W → k30.C W Xa R.length R) := ⟨fun W h => Kd.C_below (Kd.C_below (Kd.C_below HXa.out HOb.out) HOp.out) h⟩
 have KXb : Az_ (∀ W, Below wrp.heap.size wrp W → k30.C W Xb b.length b) := ⟨fun W h => Kd.C_below (Kd.C_below HXb.out HOp.out) h⟩
 have KXp : Az_ (∀ W, Below wrp.heap.size wrp W → k30.C W Xp a.length a) := ⟨fun W h => Kd.C_below HXp.out h⟩
 obtain ⟨gg, hgg⟩ : ∃ gg, gg = multiT R b := ⟨_, rfl⟩
 have h6 := HAL.out
 have hRl : R.length = a.length := by rw [HR.out, rotL_len]
 have hfa : ∀ x ∈ a, fit x := fun x hx => fit_of_ok x (HSa.out x hx).1 (by have := nodes_le x; have := (HSa.out x hx).2; omega)
 have hfb : ∀ x ∈ b, fit x := fun x hx => fit_of_ok x (HSb.out x hx).1 (by have := nodes_le x; have := (HSb.out x hx).2; omega)
 have hft : fit t := fit_of_ok t HOKC.out.1 (by have := nodes_le t; have := HOKC.out.2; omega)
 have hfR : ∀ x ∈ R, fit x := fun x hx => by
  rw [HR.out] at hx
  exact hfa x (rotL_mem hx)
 have hfm : ∀ x ∈ R ++ [t], fit x := fun x hx => by
  rcases List.mem_append.1 hx with h | h
  ·exact hfR x h
  ·rw [List.mem_singleton.1 h]; exact hft
 have hfn : ∀ x ∈ b ++ [t], fit x := fun x hx => by
  rcases List.mem_append.1 hx with h | h
  ·exact hfb x h
  ·rw [List.mem_singleton.1 h]; exact hft
 have nm : (R ++ [t]).length ≤ 1000000 := by simp; omega
 have nn : (b ++ [t]).length ≤ 1000000 := by simp; omega
 have M1 := Az_.mk (show order_Multi.f R b = some gg from by rw [hgg]; exact Multi_of hfR hfb (by omega) (by omega))
 have M2 := Az_.mk (show order_Multi.f a b = some gg from by rw [hgg, HR.out, multi_congr (cnt_rot a n) (fun _ => rfl)]; exact Multi_of hfa hfb (by omega) (by omega))
 have M3 := Az_.mk (show order_Multi.f (R ++ [t]) (b ++ [t]) = some gg from by rw [hgg, ← multi_shared R b [t]]; exact Multi_of hfm hfn nm nn)
 have M4 := Az_.mk (show order_Multi.f (R ++ [t]) R = some true from by rw [← multi_more R t]; exact Multi_of hfm hfR nm (by omega))
 have M5 := Az_.mk (show order_Multi.f R (R ++ [t]) = some false from by rw [← multi_less R t]; exact Multi_of hfR hfm (by omega) nm)
 have M6 := Az_.mk (show order_Multi.f R R = some false from by rw [← multi_irrefl R]; exact Multi_of hfR hfR (by omega) (by omega))
 have HRl := Az_.mk (And.intro (show R.length ≤ 1000 by omega) (show b.length ≤ 1000 by omega))
 obtain ⟨RM, hRM⟩ : ∃ RM, RM = R ++ [t] := ⟨_, rfl⟩
 obtain ⟨BM, hBM⟩ : ∃ BM, BM = b ++ [t] := ⟨_, rfl⟩
 rw [← hRM] at M3 M4 M5
 rw [← hBM] at M3
 have HRM := Az_.mk hRM
 have HBM := Az_.mk hBM
 clear hRM hBM
 clear ed BK0 BK1 BK2 hgg h6 hRl hfa hfb hft hfR hfm hfn nm nn
 go_upto_region 24 with (first | ((with_reducible refine gate_dst (N := 15) rfl ?_); refine box_event ?hg (N := 15) ?hd (cs := #[.int .i64 0, .slice none 0 0]) (t := 30) ?hr ?_; (case hd => rfl); (case hg => rfl); (case hr => first | (go_simp; done) | (go_simp; rfl)); intro gq hgq w7 hbox hb7; have BK7 := Az_.mk hbox; have HQ := Az_.mk (show w6.heap.size ≤ gq by rw [hgq]; exact Nat.le_refl _); have HB7 := Az_.mk hb7; obtain ⟨z0, z1, zf0, zf1⟩ := cz2_ BK7; clear hb7 hbox hgq) | (go_at_call 22; refine (soriteslaw06_Of.calls kd t.f0 C cc t.f1 t.f0 t.f1 _ (hbC.out _ HBp.out) hcc FO.out).mono ?_; rintro e w6 ⟨v1, rfl, hR, hb⟩; obtain ⟨Z, cz, rfl, hlz, hF⟩ := Kd.R_V (base' := 0) hR; have HZ := Az_.mk (And.intro hlz (Kd.F_now hF)); have HB6 := Az_.mk hb; clear hR hb hlz hF))
 have n0_ : Az_ (((w7.setCell ⟨gq, 0, none⟩ (.int .i64 t.f0)).setCell ⟨gq, 1, none⟩ (.slice Z t.f1.length cz)).heap[gq]? = some (.cells #[.int .i64 t.f0, .slice Z t.f1.length cz] 30 (0, 0))) := ⟨blk_put (cs := #[.int .i64 t.f0, .slice none 0 0]) (blk_put (cs := #[.int .i64 0, .slice none 0 0]) BK7.out 0 _ rfl) 1 _ rfl⟩
 have n1_ : Az_ (Below w6.heap.size w6 ((w7.setCell ⟨gq, 0, none⟩ (.int .i64 t.f0)).setCell ⟨gq, 1, none⟩ (.slice Z t.f1.length cz))) := ⟨bS_ (bS_ HB7.out HQ.out) HQ.out⟩
 clear z0 z1 zf0 zf1 c0 c1 BK7 HB7 HQ
 generalize ((w7.setCell ⟨gq, 0, none⟩ (.int .i64 t.f0)).setCell ⟨gq, 1, none⟩ (.slice Z t.f1.length cz)) = w8 at n0_ n1_ ⊢
 have HB8 := Az_.mk (HB6.out.trans (n1_.out.mono HB6.out.size))
 have HZ8 := Az_.mk (Kd.C_below HZ.out.2 n1_.out)
 clear n1_
 go_upto_region 25 with (go_at_call 62; refine (order_Multi.calls Xa cxa (R) Xb cxb (b) _ _ (KXa.out _ HB8.out) hcxa (KXb.out _ HB8.out) hcxb M1.out).mono ?_; rintro e w9 ⟨rfl, hb⟩; have HB9 := Az_.mk (HB8.out.trans (hb.mono HB8.out.size)); have HH9 := Az_.mk hb; clear hb)
 refine OrderMulti_r25 (x := R) (z := t) (by kernel_rfl) rfl rfl (kB_ n0_.out HH9.out) (KXa.out _ HB9.out) HZ.out.1 (Kd.C_below HZ8.out HH9.out) HRl.out.1 ?_
 intro v w10 hb10 hN
 rw [← HRM.out] at hN
 obtain ⟨M, mc, hv6, hmc, hF⟩ := Kd.N_V (base' := 0) hN
 simp only [layL, Nat.reduceAdd, List.setIfInBounds_toArray, List.set_cons_zero, List.set_cons_succ, hv6]
 generalize v 0 = n0
 generalize v 1 = n1
 generalize v 2 = n2
 generalize v 3 = n3
 generalize v 4 = n4
 generalize v 5 = n5
 have HB10 := Az_.mk (HB9.out.trans (hb10.mono HB9.out.size))
 have HH10 := Az_.mk (HH9.out.trans (hb10.mono HH9.out.size))
 have HM10 := Az_.mk (Kd.F_now hF)
 clear hF hN hv6 v hb10
 go_upto_region 26 with (fail)
 refine OrderMulti_r26 (x := b) (z := t) (by kernel_rfl) rfl rfl (kB_ n0_.out HH10.out) (KXb.out _ HB10.out) HZ.out.1 (Kd.C_below HZ8.out HH10.out) HRl.out.2 ?_
 intro v w11 hb11 hN
 rw [← HBM.out] at hN
 obtain ⟨N, nc, hv6, hnc, hF⟩ := Kd.N_V (base' := 0) hN
 simp only [layL, Nat.reduceAdd, List.setIfInBounds_toArray, List.set_cons_zero, List.set_cons_succ, hv6]
 generalize v 0 = n0
 generalize v 1 = n1
 generalize v 2 = n2
 generalize v 3 = n3
 generalize v 4 = n4
 generalize v 5 = n5
 have HB11 := Az_.mk (HB10.out.trans (hb11.mono HB10.out.size))
 have KM : Az_ (∀ W, Below w11.heap.size w11 W → k30.C W M RM.length RM) := ⟨fun W h => Kd.C_below (Kd.C_below HM10.out hb11) h⟩
 have KN : Az_ (∀ W, Below w11.heap.size w11 W → k30.C W N BM.length BM) := ⟨fun W h => Kd.C_below (Kd.F_now hF) h⟩
 have KXa : Az_ (∀ W, Below w11.heap.size w11 W → k30.C W Xa R.length R) := ⟨fun W h => KXa.out W (HB11.out.trans (h.mono HB11.out.size))⟩
 have KXb : Az_ (∀ W, Below w11.heap.size w11 W → k30.C W Xb b.length b) := ⟨fun W h => KXb.out W (HB11.out.trans (h.mono HB11.out.size))⟩
 have KXp : Az_ (∀ W, Below w11.heap.size w11 W → k30.C W Xp a.length a) := ⟨fun W h => KXp.out W (HB11.out.trans (h.mono HB11.out.size))⟩
 have HBw := Az_.mk (HBp.out.trans (HB11.out.mono HBp.out.size))
 clear HB11
 have HB11 := Az_.mk (Below.refl w11.heap.size w11)
 clear hF hN hv6 v hb11
 cases gg
 all_goals
  go_wp2_with (first | (go_at_call 62; refine (order_Multi.calls Xa cxa (R) Xa cxa (R) _ _ (KXa.out _ HB15.out) hcxa (KXa.out _ HB15.out) hcxa M6.out).mono ?_; rintro e w16 ⟨rfl, hb⟩; have HB16 := Az_.mk (HB15.out.trans (hb.mono HB15.out.size)); clear hb) | (go_at_call 62; refine (order_Multi.calls Xa cxa (R) M mc RM _ _ (KXa.out _ HB14.out) hcxa (KM.out _ HB14.out) hmc M5.out).mono ?_; rintro e w15 ⟨rfl, hb⟩; have HB15 := Az_.mk (HB14.out.trans (hb.mono HB14.out.size)); clear hb) | (go_at_call 62; refine (order_Multi.calls M mc RM Xa cxa (R) _ _ (KM.out _ HB13.out) hmc (KXa.out _ HB13.out) hcxa M4.out).mono ?_; rintro e w14 ⟨rfl, hb⟩; have HB14 := Az_.mk (HB13.out.trans (hb.mono HB13.out.size)); clear hb) | (go_at_call 62; refine (order_Multi.calls M mc RM N nc BM _ _ (KM.out _ HB12.out) hmc (KN.out _ HB12.out) hnc M3.out).mono ?_; rintro e w13 ⟨rfl, hb⟩; have HB13 := Az_.mk (HB12.out.trans (hb.mono HB12.out.size)); clear hb) | (go_at_call 62; refine (order_Multi.calls Xp cxp (a) Xb cxb (b) _ _ (KXp.out _ HB11.out) hcxp (KXb.out _ HB11.out) hcxb M2.out).mono ?_; rintro e w12 ⟨rfl, hb⟩; have HB12 := Az_.mk (HB11.out.trans (hb.mono HB11.out.size)); clear hb))
  go_ret
  exact ⟨rfl, HBw.out.trans (HB16.out.mono HBw.out.size)⟩
end
end Go.Proofs.Ytpfddihcikiofaa.P
section
namespace Go.Proofs.Ytpfddihcikiofaa.orderMulti
open Go.ChangeShapes Go.WideShapes Go.ChangeAt Go.RowKit
set_option linter.unusedVariables false
theorem own : ownKnob Try.prog.godebug = none := by kernel_rfl
theorem laidOut : laidOutB Try.prog = true := by kernel_rfl
set_option maxRecDepth 100000 in
theorem lifted (os : Os) (started : os.Started) (H : Type) (enc : TypeId × Value → H) :
  ReturnsInHanded {} Try.checked os 16 .any (Rows.orderMultiSpec.pre6 enc Try.prog Try.f16 Rows.orderMultiRow.domain false) (Rows.orderMultiSpec.post enc Try.prog Try.f16 false true false false) := by
 refine returnsInHanded_of_change_sized (C := Try.checked) own started (by kernel_rfl) Try.func16
  (ChangeSpec.witness6 (enc := enc) (C := Try.checked) false ⟨#[], #[.slice none 0 0, .slice none 0 0, .agg #[.int .i64 0, .slice none 0 0], .int .u8 0], []⟩ 8 (by kernel_rfl) (by kernel_rfl) (by kernel_rfl) (by kernel_rfl)) ?_
 intro W base args ds gs before hval0 hW hcnd hsz0 _
 have hval : ∀ (j : Nat) t v, Try.f16.params[j]? = some t → args[j]? = some v → Value.okWide Try.prog W .any base t v := hval0
 have hW' := hW
 obtain ⟨p, q, hA0, hV, rfl, hfz, hnd⟩ := hW
 have hA : DataW.TrodAll enc Try.prog W 0 (fun _ => true) true Try.f16.params.toList args.toList ds p := hA0
 rw [Try.params16] at hA hval
 obtain ⟨v0, vs0, d0, ds0, p0, q0, hargs, rfl, rfl, h0, r0⟩ := trodAll_cons hA
 obtain ⟨v1, vs1, d1, ds1, p1, q1, rfl, rfl, rfl, h1, r1⟩ := trodAll_cons r0
 obtain ⟨v2, vs2, d2, ds2, p2, q2, rfl, rfl, rfl, h2, r2⟩ := trodAll_cons r1
 obtain ⟨v3, vs3, d3, ds3, p3, q3, rfl, rfl, rfl, h3, r3⟩ := trodAll_cons r2
 obtain ⟨rfl, rfl, rfl⟩ := trodAll_nil r3
 obtain rfl : args = #[v0, v1, v2, v3] := by cases args; simp_all
 obtain ⟨rfl, rfl⟩ := trodVars_none hV
 have k0 := h0
 have lt0 : ∀ x ∈ p0, x.block < W.heap.size := by obtain ⟨m, hm⟩ := k0; exact DataW.trod_lt m _ _ _ hm
 have hL0 : P.Light 22 d0 := P.light_at hsz0 0 22 d0 rfl rfl
 obtain ⟨t0, A0, c0, rfl, hc0, hC0, hW0⟩ := P.wide_Ts (hval 0 22 v0 rfl rfl) h0 hL0
 have k1 := h1
 have lt1 : ∀ x ∈ p1, x.block < W.heap.size := by obtain ⟨m, hm⟩ := k1; exact DataW.trod_lt m _ _ _ hm
 obtain ⟨t1, A1, c1, rfl, hc1, hC1⟩ := P.open_Ts (hval 1 22 v1 rfl rfl) h1
 have k2 := h2
 have lt2 : ∀ x ∈ p2, x.block < W.heap.size := by obtain ⟨m, hm⟩ := k2; exact DataW.trod_lt m _ _ _ hm
 obtain ⟨t2, A2, c2, rfl, hc2, hC2, hw2⟩ := P.open_T (hval 2 24 v2 rfl rfl) h2
 obtain ⟨a3, rfl, rfl, rfl, w3⟩ := open_int Try.underlying5 (hval 3 5 v3 rfl rfl) h3
 obtain ⟨n, rfl, hn⟩ : ∃ n : Nat, a3 = (n : Int) ∧ n < 256 := ⟨a3.toNat, by have := w3; simp [Lit.wf, IntKind.min, IntKind.max, IntKind.signed, IntKind.bits] at this; omega, by have := w3; simp [Lit.wf, IntKind.min, IntKind.max, IntKind.signed, IntKind.bits] at this; omega⟩
 clear hA0 hval0 hsz0
 refine (P.OrderMulti_walk t0 t1 t2 n A0 A1 A2 c0 c1 c2 W hn hC0 hc0 hC1 hc1 hC2 hc2 hW0).mono fun e W' ⟨he, bel⟩ => ?_
 subst he
 exact ⟨_, rfl, _, _, _, [], _, [], hW', trodAll_mk1 (shut_bool Try.underlying4 _), (trodAll_cons_mk (Below.trod laidOut (by kernel_rfl) (of_decide_eq_true (by kernel_rfl)) k0 bel lt0) (trodAll_cons_mk (Below.trod laidOut (by kernel_rfl) (of_decide_eq_true (by kernel_rfl)) k1 bel lt1) (trodAll_cons_mk (Below.trod laidOut (by kernel_rfl) (of_decide_eq_true (by kernel_rfl)) k2 bel lt2) (trodAll_cons_mk (shut_int Try.underlying5 w3) trodAll_mk0)))), rfl, bel.frame _, fun h => by cases h⟩
theorem over : Rows.orderMultiRow.holds Try.pinned (OpenSpec.ofChange Rows.orderMultiSpec) :=
 OpenClaim.holds_of_wide 16 Try.f16 rfl rfl rfl rfl rfl rfl rfl ⟨rfl, rfl, rfl, rfl, rfl⟩ rfl rfl rfl rfl rfl (by kernel_rfl) Try.func16 (by kernel_rfl)
  (of_decide_eq_true (by kernel_rfl)) (by unfold Func.isWrapper; first | (rw [if_pos (by decide +kernel)]; kernel_rfl) | (rw [if_neg (by decide +kernel)]; exact ⟨rfl, rfl⟩))
  (fun os started H enc _ => lifted os started H enc)
end Go.Proofs.Ytpfddihcikiofaa.orderMulti
namespace Go.Proofs.Ytpfddihcikiofaa
theorem orderMulti_holds : Rows.OrderMultiSaid := orderMulti.over
#print axioms orderMulti_holds
end Go.Proofs.Ytpfddihcikiofaa
end
