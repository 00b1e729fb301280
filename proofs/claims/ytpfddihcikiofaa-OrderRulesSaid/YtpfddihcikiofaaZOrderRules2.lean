/- The law OrderRules holds of every input. Part 2 of 6: Px0, GOpen, GOpenB, Tree, GRegion, GSeg, PxSoriteslaw06Small, PxSoriteslaw06Of, GPure06, GOf, GTold, GDetJ, GOrRegs. -/
import Derived.Test.YtpfddihcikiofaaProg
import Derived.Below
import Derived.Deep.Draws
import Derived.Deep.AppendLies
import Derived.Maps.AppendAt
import Derived.OwnWalk
import Derived.Laws.BytesArg
import Derived.Laws.MakeOwn
import Derived.Laws.OwnMore
import Derived.Deep.OwnRows
import Derived.Tactics
import Derived.Lib.ConvBytes
import Derived.Laws.Slices
import Derived.WalkKit
import Derived.KernelRfl
import Derived.RowKit3
import Derived.Deep.LoopGhost
import Derived.Deep.QuietTactic
import Derived.BigQuiet
import Derived.WideLaws
import Derived.Deep.DeepCutAuto
import Derived.Deep.CutBlock
import Derived.Deep.RegionHeld3
import Derived.Laws.Rows
import Derived.Lib.AppendStr
import Derived.ArgAppend
import Derived.Laws.IdiomCopy
import Derived.OrdersHeld
import Derived.Laws.BitsLemmas
import Derived.RowKit
import Derived.Test.YtpfddihcikiofaaZOrderRules1
import Derived.ChangeSame
import Derived.ChangeShapes
import Derived.ChangeArms
import Derived.WideShapes
import Derived.RegionTactic
namespace Go.Proofs.Ytpfddihcikiofaa.P
open Go.RowKit Go.Proofs.YtpfddihcikiofaaW.PrintWords Go.Proofs.YtpfddihcikiofaaW.PrintLast Go.Proofs.YtpfddihcikiofaaW.PrintMore
set_option linter.unusedVariables false
set_option linter.unusedSimpArgs false
section
universe u
theorem sA_ {α : Type u} (l : List α) (i : Nat) (a : α) : l.toArray.setIfInBounds i a = (l.set i a).toArray := List.setIfInBounds_toArray l i a
theorem sZ_ {α : Type u} (x a : α) (l : List α) : (x :: l).set 0 a = a :: l := List.set_cons_zero
theorem sS_ {α : Type u} (x a : α) (l : List α) (n : Nat) : (x :: l).set (n + 1) a = x :: l.set n a := List.set_cons_succ
attribute [local go_sem] yaq_ yao_ max_two min_two yal_ yak_ yap_ yan_
def errW : Option Int → Value
 | none => .nilIface
 | some c => .iface 0 (.int .i64 c)
theorem yae_ : errW none = .nilIface := rfl
theorem yad_ (c : Int) : errW (some c) = .iface 0 (.int .i64 c) := rfl
theorem info3 : (Try.prog.info? 3).map (fun i => (i.zero, i.size, i.bytes)) = some (some (.int .i64 0), 1, 8) := by kernel_rfl
theorem info30 : (Try.prog.info? 30).map (fun i => (i.zero, i.size, i.bytes)) = some (some (.agg #[(.int .i64 0), (.slice none 0 0)]), 2, 32) := by kernel_rfl
theorem info78 : (Try.prog.info? 78).map (fun i => (i.zero, i.size, i.bytes)) = some (some (.agg #[(.bool false), (.int .i64 0), (.slice none 0 0), (.int .i64 0), (.slice none 0 0)]), 5, 72) := by kernel_rfl
theorem info114 : (Try.prog.info? 114).map (fun i => (i.zero, i.size, i.bytes)) = some (some (.agg #[(.int .i64 0), (.int .i64 0), (.slice none 0 0)]), 3, 40) := by kernel_rfl
structure S30 where
 f0 : Int
 f1 : (List S30)
def z30 : S30 := ⟨(0 : Int), ([] : List S30)⟩
def F30 (d : Kd S30) : Kd S30 := Kd.iso (Kd.pair (Kd.int .i64) (Kd.slice 30 d)) (fun x : S30 => (x.f0, x.f1))
theorem mono30 : Kd.Mono F30 := Kd.mono_iso _ (Kd.mono_pair (Kd.mono_const _) (Kd.mono_slice 30 Kd.mono_id))
theorem sub30 : Kd.Sub F30 [30] := Kd.sub_iso _ (Kd.sub_pair (Kd.sub_const _ (by decide)) (Kd.sub_slice 30 (by decide) Kd.sub_id))
theorem sz30 : ∀ n, (Kd.upto F30 2 [30] n).sz = 2 := Kd.upto_sz (fun _ => rfl)
def k30 : Kd S30 := Kd.fix F30 2 [30] sz30 (Kd.upto_E sub30)
theorem k30_heap : Kd.Heap k30 := Kd.heap_fix (fun _ h_ => Kd.heap_iso _ (Kd.heap_pair (Kd.heap_int .i64) (Kd.heap_slice 30 h_)))
theorem k30_open {w : World} {x : S30} {cs : List Value} (h : k30.K w x cs) : ∃ A1 c1, cs = [.int .i64 x.f0, .slice A1 x.f1.length c1] ∧ x.f1.length ≤ c1 ∧ k30.C w A1 x.f1.length x.f1 := by
 obtain ⟨n, h⟩ := h
 cases n with
 | zero => exact h.elim
 | succ n =>
  obtain ⟨_, _, rfl, rfl, ⟨A1, c1, rfl, l1, g1⟩⟩ := h
  exact ⟨A1, c1, rfl, l1, Kd.fix_C g1⟩
theorem k30_mk (w : World) (x : S30) {A1 : Option Addr} {c1 : Nat} (l1 : x.f1.length ≤ c1) (g1 : k30.C w A1 x.f1.length x.f1) : k30.K w x [.int .i64 x.f0, .slice A1 x.f1.length c1] := by
 obtain ⟨n1, q1⟩ := Kd.fix_C_back mono30 g1
 have r1 := Kd.upto_C_le mono30 sz30 (show n1 ≤ n1 by omega) q1
 exact ⟨n1 + 1, ⟨[.int .i64 x.f0], [.slice A1 x.f1.length c1], rfl, rfl, ⟨A1, c1, rfl, l1, r1⟩⟩⟩
theorem k30_mkM (w : World) (base : Nat) (ok : Nat → Prop) (x : S30) {v1 : Value} (g1 : k30.R 30 w base ok v1 x.f1) : k30.M w base ok x [.int .i64 x.f0, v1] := by
 obtain ⟨n1, q1⟩ := Kd.fix_R_back mono30 g1
 have r1 := Kd.upto_R_le mono30 sz30 (show n1 ≤ n1 by omega) q1
 exact ⟨n1 + 1, ⟨[.int .i64 x.f0], [v1], rfl, rfl, ⟨v1, rfl, r1⟩⟩⟩
theorem k30_openF {W : World} {ok : Nat → Prop} {x : S30} {cs : List Value} (h : Kd.FK k30 W ok x cs) : ∃ A1 c1, cs = [.int .i64 x.f0, .slice A1 x.f1.length c1] ∧ x.f1.length ≤ c1 ∧ Kd.F k30 W ok A1 x.f1.length x.f1 := by
 obtain ⟨A1, c1, rfl, l1, _⟩ := k30_open (Kd.FK_now h)
 exact ⟨A1, c1, rfl, l1, (fun W' hW => by obtain ⟨A1_, c1_, he, l1_, g1_⟩ := k30_open (h W' hW); injection (Option.some.inj (show some (Value.slice A1 x.f1.length c1) = some (Value.slice A1_ x.f1.length c1_) from congrArg (fun l => l[1]?) he)) with ha_ _ _; rw [ha_]; exact g1_)⟩
theorem k30_mkF (W : World) (ok : Nat → Prop) (x : S30) {A1 : Option Addr} {c1 : Nat} (l1 : x.f1.length ≤ c1) (g1 : Kd.F k30 W ok A1 x.f1.length x.f1) : Kd.FK k30 W ok x [.int .i64 x.f0, .slice A1 x.f1.length c1] := fun W2 hW => k30_mk W2 x l1 (g1 W2 hW)
def rd_T30 (xs : List S30) (i : Int) : S30 := xs.getD i.toNat z30
theorem at_T30 {w : World} {A : Option Addr} {n : Nat} {xs : List S30} (h : Kd.C k30 w A n xs) (i : Int) (h0 : 0 ≤ i) (h1 : i < n) : ∃ ad A1 c1, A = some ad ∧ w.cell? (ad.add (i.toNat * 2)) = some (.int .i64 (rd_T30 xs i).f0) ∧ w.cell? ⟨(ad.add (i.toNat * 2)).block, (ad.add (i.toNat * 2)).off + 1, none⟩ = some (.slice A1 (rd_T30 xs i).f1.length c1) ∧ (rd_T30 xs i).f1.length ≤ c1 ∧ k30.C w A1 (rd_T30 xs i).f1.length (rd_T30 xs i).f1 := by
 obtain ⟨ad, c, e, _, hK, hc0⟩ := Kd.C_get h z30 i h0 h1
 have hc : ∀ j u, c[j]? = some u → w.cell? (ad.add (i.toNat * 2 + j)) = some u := hc0
 obtain ⟨A1, c1, rfl, l1, g1⟩ := k30_open hK
 exact ⟨ad, A1, c1, e, hc 0 _ rfl, by rw [← add_field _ _ 1 (by omega)]; exact hc 1 _ rfl, l1, g1⟩
abbrev S24 := S30
abbrev z24 := z30
def F24 (d : Kd S24) : Kd S24 := Kd.iso (Kd.pair (Kd.int .i64) (Kd.slice 24 d)) (fun x : S24 => (x.f0, x.f1))
theorem mono24 : Kd.Mono F24 := Kd.mono_iso _ (Kd.mono_pair (Kd.mono_const _) (Kd.mono_slice 24 Kd.mono_id))
theorem sub24 : Kd.Sub F24 [24] := Kd.sub_iso _ (Kd.sub_pair (Kd.sub_const _ (by decide)) (Kd.sub_slice 24 (by decide) Kd.sub_id))
theorem sz24 : ∀ n, (Kd.upto F24 2 [24] n).sz = 2 := Kd.upto_sz (fun _ => rfl)
def k24 : Kd S24 := Kd.fix F24 2 [24] sz24 (Kd.upto_E sub24)
theorem k24_open {w : World} {x : S24} {cs : List Value} (h : k24.K w x cs) : ∃ A1 c1, cs = [.int .i64 x.f0, .slice A1 x.f1.length c1] ∧ x.f1.length ≤ c1 ∧ k24.C w A1 x.f1.length x.f1 := by
 obtain ⟨n, h⟩ := h
 cases n with
 | zero => exact h.elim
 | succ n =>
  obtain ⟨_, _, rfl, rfl, ⟨A1, c1, rfl, l1, g1⟩⟩ := h
  exact ⟨A1, c1, rfl, l1, Kd.fix_C g1⟩
theorem k24_mk (w : World) (x : S24) {A1 : Option Addr} {c1 : Nat} (l1 : x.f1.length ≤ c1) (g1 : k24.C w A1 x.f1.length x.f1) : k24.K w x [.int .i64 x.f0, .slice A1 x.f1.length c1] := by
 obtain ⟨n1, q1⟩ := Kd.fix_C_back mono24 g1
 have r1 := Kd.upto_C_le mono24 sz24 (show n1 ≤ n1 by omega) q1
 exact ⟨n1 + 1, ⟨[.int .i64 x.f0], [.slice A1 x.f1.length c1], rfl, rfl, ⟨A1, c1, rfl, l1, r1⟩⟩⟩
def rd_T24 (xs : List S24) (i : Int) : S24 := xs.getD i.toNat z24
theorem at_T24 {w : World} {A : Option Addr} {n : Nat} {xs : List S24} (h : Kd.C k24 w A n xs) (i : Int) (h0 : 0 ≤ i) (h1 : i < n) : ∃ ad A1 c1, A = some ad ∧ w.cell? (ad.add (i.toNat * 2)) = some (.int .i64 (rd_T24 xs i).f0) ∧ w.cell? ⟨(ad.add (i.toNat * 2)).block, (ad.add (i.toNat * 2)).off + 1, none⟩ = some (.slice A1 (rd_T24 xs i).f1.length c1) ∧ (rd_T24 xs i).f1.length ≤ c1 ∧ k24.C w A1 (rd_T24 xs i).f1.length (rd_T24 xs i).f1 := by
 obtain ⟨ad, c, e, _, hK, hc0⟩ := Kd.C_get h z24 i h0 h1
 have hc : ∀ j u, c[j]? = some u → w.cell? (ad.add (i.toNat * 2 + j)) = some u := hc0
 obtain ⟨A1, c1, rfl, l1, g1⟩ := k24_open hK
 exact ⟨ad, A1, c1, e, hc 0 _ rfl, by rw [← add_field _ _ 1 (by omega)]; exact hc 1 _ rfl, l1, g1⟩
structure S112 where
 f0 : Int
 f1 : S24
def z112 : S112 := ⟨(0 : Int), z24⟩
def k112 : Kd S112 := Kd.iso (Kd.pair (Kd.int .i64) k24) (fun x : S112 => (x.f0, x.f1))
theorem k112_open {w : World} {x : S112} {cs : List Value} (h : k112.K w x cs) : ∃ A2 c2, cs = [.int .i64 x.f0, .int .i64 x.f1.f0, .slice A2 x.f1.f1.length c2] ∧ x.f1.f1.length ≤ c2 ∧ k24.C w A2 x.f1.f1.length x.f1.f1 := by
 obtain ⟨_, _, rfl, rfl, s1⟩ := h
 obtain ⟨A2, c2, rfl, l2, g2⟩ := k24_open s1
 exact ⟨A2, c2, rfl, l2, g2⟩
theorem k112_mk (w : World) (x : S112) {A2 : Option Addr} {c2 : Nat} (l2 : x.f1.f1.length ≤ c2) (g2 : k24.C w A2 x.f1.f1.length x.f1.f1) : k112.K w x [.int .i64 x.f0, .int .i64 x.f1.f0, .slice A2 x.f1.f1.length c2] := ⟨[.int .i64 x.f0], [.int .i64 x.f1.f0, .slice A2 x.f1.f1.length c2], rfl, rfl, (k24_mk w x.f1 l2 g2)⟩
def rd_T112 (xs : List S112) (i : Int) : S112 := xs.getD i.toNat z112
theorem at_T112 {w : World} {A : Option Addr} {n : Nat} {xs : List S112} (h : Kd.C k112 w A n xs) (i : Int) (h0 : 0 ≤ i) (h1 : i < n) : ∃ ad A2 c2, A = some ad ∧ w.cell? (ad.add (i.toNat * 3)) = some (.int .i64 (rd_T112 xs i).f0) ∧ w.cell? ⟨(ad.add (i.toNat * 3)).block, (ad.add (i.toNat * 3)).off + 1, none⟩ = some (.int .i64 (rd_T112 xs i).f1.f0) ∧ w.cell? ⟨(ad.add (i.toNat * 3)).block, (ad.add (i.toNat * 3)).off + 2, none⟩ = some (.slice A2 (rd_T112 xs i).f1.f1.length c2) ∧ (rd_T112 xs i).f1.f1.length ≤ c2 ∧ k24.C w A2 (rd_T112 xs i).f1.f1.length (rd_T112 xs i).f1.f1 := by
 obtain ⟨ad, c, e, _, hK, hc0⟩ := Kd.C_get h z112 i h0 h1
 have hc : ∀ j u, c[j]? = some u → w.cell? (ad.add (i.toNat * 3 + j)) = some u := hc0
 obtain ⟨A2, c2, rfl, l2, g2⟩ := k112_open hK
 exact ⟨ad, A2, c2, e, hc 0 _ rfl, by rw [← add_field _ _ 1 (by omega)]; exact hc 1 _ rfl, by rw [← add_field _ _ 2 (by omega)]; exact hc 2 _ rfl, l2, g2⟩
structure S114 where
 f0 : Int
 f1 : S30
def z114 : S114 := ⟨(0 : Int), z30⟩
def k114 : Kd S114 := Kd.iso (Kd.pair (Kd.int .i64) k30) (fun x : S114 => (x.f0, x.f1))
theorem k114_heap : Kd.Heap k114 := Kd.heap_iso _ (Kd.heap_pair (Kd.heap_int .i64) k30_heap)
theorem k114_open {w : World} {x : S114} {cs : List Value} (h : k114.K w x cs) : ∃ A2 c2, cs = [.int .i64 x.f0, .int .i64 x.f1.f0, .slice A2 x.f1.f1.length c2] ∧ x.f1.f1.length ≤ c2 ∧ k30.C w A2 x.f1.f1.length x.f1.f1 := by
 obtain ⟨_, _, rfl, rfl, s1⟩ := h
 obtain ⟨A2, c2, rfl, l2, g2⟩ := k30_open s1
 exact ⟨A2, c2, rfl, l2, g2⟩
theorem k114_mkM (w : World) (base : Nat) (ok : Nat → Prop) (x : S114) {v2 : Value} (g2 : k30.R 30 w base ok v2 x.f1.f1) : k114.M w base ok x [.int .i64 x.f0, .int .i64 x.f1.f0, v2] := ⟨[.int .i64 x.f0], [.int .i64 x.f1.f0, v2], rfl, rfl, (k30_mkM w base ok x.f1 g2)⟩
theorem k114_openF {W : World} {ok : Nat → Prop} {x : S114} {cs : List Value} (h : Kd.FK k114 W ok x cs) : ∃ A2 c2, cs = [.int .i64 x.f0, .int .i64 x.f1.f0, .slice A2 x.f1.f1.length c2] ∧ x.f1.f1.length ≤ c2 ∧ Kd.F k30 W ok A2 x.f1.f1.length x.f1.f1 := by
 obtain ⟨A2, c2, rfl, l2, _⟩ := k114_open (Kd.FK_now h)
 exact ⟨A2, c2, rfl, l2, (fun W' hW => by obtain ⟨A2_, c2_, he, l2_, g2_⟩ := k114_open (h W' hW); injection (Option.some.inj (show some (Value.slice A2 x.f1.f1.length c2) = some (Value.slice A2_ x.f1.f1.length c2_) from congrArg (fun l => l[2]?) he)) with ha_ _ _; rw [ha_]; exact g2_)⟩
def rd_T114 (xs : List S114) (i : Int) : S114 := xs.getD i.toNat z114
theorem at_T114 {w : World} {A : Option Addr} {n : Nat} {xs : List S114} (h : Kd.C k114 w A n xs) (i : Int) (h0 : 0 ≤ i) (h1 : i < n) : ∃ ad A2 c2, A = some ad ∧ w.cell? (ad.add (i.toNat * 3)) = some (.int .i64 (rd_T114 xs i).f0) ∧ w.cell? ⟨(ad.add (i.toNat * 3)).block, (ad.add (i.toNat * 3)).off + 1, none⟩ = some (.int .i64 (rd_T114 xs i).f1.f0) ∧ w.cell? ⟨(ad.add (i.toNat * 3)).block, (ad.add (i.toNat * 3)).off + 2, none⟩ = some (.slice A2 (rd_T114 xs i).f1.f1.length c2) ∧ (rd_T114 xs i).f1.f1.length ≤ c2 ∧ k30.C w A2 (rd_T114 xs i).f1.f1.length (rd_T114 xs i).f1.f1 := by
 obtain ⟨ad, c, e, _, hK, hc0⟩ := Kd.C_get h z114 i h0 h1
 have hc : ∀ j u, c[j]? = some u → w.cell? (ad.add (i.toNat * 3 + j)) = some u := hc0
 obtain ⟨A2, c2, rfl, l2, g2⟩ := k114_open hK
 exact ⟨ad, A2, c2, e, hc 0 _ rfl, by rw [← add_field _ _ 1 (by omega)]; exact hc 1 _ rfl, by rw [← add_field _ _ 2 (by omega)]; exact hc 2 _ rfl, l2, g2⟩
structure S78 where
 f0 : Bool
 f1 : S30
 f2 : S30
def z78 : S78 := ⟨false, z30, z30⟩
def k78 : Kd S78 := Kd.iso (Kd.pair Kd.bool (Kd.pair k30 k30)) (fun x : S78 => (x.f0, x.f1, x.f2))
theorem k78_open {w : World} {x : S78} {cs : List Value} (h : k78.K w x cs) : ∃ A2 c2 A4 c4, cs = [.bool x.f0, .int .i64 x.f1.f0, .slice A2 x.f1.f1.length c2, .int .i64 x.f2.f0, .slice A4 x.f2.f1.length c4] ∧ x.f1.f1.length ≤ c2 ∧ k30.C w A2 x.f1.f1.length x.f1.f1 ∧ x.f2.f1.length ≤ c4 ∧ k30.C w A4 x.f2.f1.length x.f2.f1 := by
 obtain ⟨_, _, rfl, rfl, ⟨_, _, rfl, s1, s3⟩⟩ := h
 obtain ⟨A2, c2, rfl, l2, g2⟩ := k30_open s1
 obtain ⟨A4, c4, rfl, l4, g4⟩ := k30_open s3
 exact ⟨A2, c2, A4, c4, rfl, l2, g2, l4, g4⟩
theorem k78_mkM (w : World) (base : Nat) (ok : Nat → Prop) (x : S78) {v2 : Value} (g2 : k30.R 30 w base ok v2 x.f1.f1) {v4 : Value} (g4 : k30.R 30 w base ok v4 x.f2.f1) : k78.M w base ok x [.bool x.f0, .int .i64 x.f1.f0, v2, .int .i64 x.f2.f0, v4] := ⟨[.bool x.f0], [.int .i64 x.f1.f0, v2, .int .i64 x.f2.f0, v4], rfl, rfl, ⟨[.int .i64 x.f1.f0, v2], [.int .i64 x.f2.f0, v4], rfl, (k30_mkM w base ok x.f1 g2), (k30_mkM w base ok x.f2 g4)⟩⟩
def rd_T78 (xs : List S78) (i : Int) : S78 := xs.getD i.toNat z78
theorem at_T78 {w : World} {A : Option Addr} {n : Nat} {xs : List S78} (h : Kd.C k78 w A n xs) (i : Int) (h0 : 0 ≤ i) (h1 : i < n) : ∃ ad A2 c2 A4 c4, A = some ad ∧ w.cell? (ad.add (i.toNat * 5)) = some (.bool (rd_T78 xs i).f0) ∧ w.cell? ⟨(ad.add (i.toNat * 5)).block, (ad.add (i.toNat * 5)).off + 1, none⟩ = some (.int .i64 (rd_T78 xs i).f1.f0) ∧ w.cell? ⟨(ad.add (i.toNat * 5)).block, (ad.add (i.toNat * 5)).off + 2, none⟩ = some (.slice A2 (rd_T78 xs i).f1.f1.length c2) ∧ w.cell? ⟨(ad.add (i.toNat * 5)).block, (ad.add (i.toNat * 5)).off + 3, none⟩ = some (.int .i64 (rd_T78 xs i).f2.f0) ∧ w.cell? ⟨(ad.add (i.toNat * 5)).block, (ad.add (i.toNat * 5)).off + 4, none⟩ = some (.slice A4 (rd_T78 xs i).f2.f1.length c4) ∧ (rd_T78 xs i).f1.f1.length ≤ c2 ∧ k30.C w A2 (rd_T78 xs i).f1.f1.length (rd_T78 xs i).f1.f1 ∧ (rd_T78 xs i).f2.f1.length ≤ c4 ∧ k30.C w A4 (rd_T78 xs i).f2.f1.length (rd_T78 xs i).f2.f1 := by
 obtain ⟨ad, c, e, _, hK, hc0⟩ := Kd.C_get h z78 i h0 h1
 have hc : ∀ j u, c[j]? = some u → w.cell? (ad.add (i.toNat * 5 + j)) = some u := hc0
 obtain ⟨A2, c2, A4, c4, rfl, l2, g2, l4, g4⟩ := k78_open hK
 exact ⟨ad, A2, c2, A4, c4, e, hc 0 _ rfl, by rw [← add_field _ _ 1 (by omega)]; exact hc 1 _ rfl, by rw [← add_field _ _ 2 (by omega)]; exact hc 2 _ rfl, by rw [← add_field _ _ 3 (by omega)]; exact hc 3 _ rfl, by rw [← add_field _ _ 4 (by omega)]; exact hc 4 _ rfl, l2, g2, l4, g4⟩
abbrev S81 := S78
abbrev z81 := z78
def k81 : Kd S81 := Kd.iso (Kd.pair Kd.bool (Kd.pair k24 k24)) (fun x : S81 => (x.f0, x.f1, x.f2))
theorem k81_open {w : World} {x : S81} {cs : List Value} (h : k81.K w x cs) : ∃ A2 c2 A4 c4, cs = [.bool x.f0, .int .i64 x.f1.f0, .slice A2 x.f1.f1.length c2, .int .i64 x.f2.f0, .slice A4 x.f2.f1.length c4] ∧ x.f1.f1.length ≤ c2 ∧ k24.C w A2 x.f1.f1.length x.f1.f1 ∧ x.f2.f1.length ≤ c4 ∧ k24.C w A4 x.f2.f1.length x.f2.f1 := by
 obtain ⟨_, _, rfl, rfl, ⟨_, _, rfl, s1, s3⟩⟩ := h
 obtain ⟨A2, c2, rfl, l2, g2⟩ := k24_open s1
 obtain ⟨A4, c4, rfl, l4, g4⟩ := k24_open s3
 exact ⟨A2, c2, A4, c4, rfl, l2, g2, l4, g4⟩
theorem k81_mk (w : World) (x : S81) {A2 : Option Addr} {c2 : Nat} (l2 : x.f1.f1.length ≤ c2) (g2 : k24.C w A2 x.f1.f1.length x.f1.f1) {A4 : Option Addr} {c4 : Nat} (l4 : x.f2.f1.length ≤ c4) (g4 : k24.C w A4 x.f2.f1.length x.f2.f1) : k81.K w x [.bool x.f0, .int .i64 x.f1.f0, .slice A2 x.f1.f1.length c2, .int .i64 x.f2.f0, .slice A4 x.f2.f1.length c4] := ⟨[.bool x.f0], [.int .i64 x.f1.f0, .slice A2 x.f1.f1.length c2, .int .i64 x.f2.f0, .slice A4 x.f2.f1.length c4], rfl, rfl, ⟨[.int .i64 x.f1.f0, .slice A2 x.f1.f1.length c2], [.int .i64 x.f2.f0, .slice A4 x.f2.f1.length c4], rfl, (k24_mk w x.f1 l2 g2), (k24_mk w x.f2 l4 g4)⟩⟩
def rd_T81 (xs : List S81) (i : Int) : S81 := xs.getD i.toNat z81
theorem at_T81 {w : World} {A : Option Addr} {n : Nat} {xs : List S81} (h : Kd.C k81 w A n xs) (i : Int) (h0 : 0 ≤ i) (h1 : i < n) : ∃ ad A2 c2 A4 c4, A = some ad ∧ w.cell? (ad.add (i.toNat * 5)) = some (.bool (rd_T81 xs i).f0) ∧ w.cell? ⟨(ad.add (i.toNat * 5)).block, (ad.add (i.toNat * 5)).off + 1, none⟩ = some (.int .i64 (rd_T81 xs i).f1.f0) ∧ w.cell? ⟨(ad.add (i.toNat * 5)).block, (ad.add (i.toNat * 5)).off + 2, none⟩ = some (.slice A2 (rd_T81 xs i).f1.f1.length c2) ∧ w.cell? ⟨(ad.add (i.toNat * 5)).block, (ad.add (i.toNat * 5)).off + 3, none⟩ = some (.int .i64 (rd_T81 xs i).f2.f0) ∧ w.cell? ⟨(ad.add (i.toNat * 5)).block, (ad.add (i.toNat * 5)).off + 4, none⟩ = some (.slice A4 (rd_T81 xs i).f2.f1.length c4) ∧ (rd_T81 xs i).f1.f1.length ≤ c2 ∧ k24.C w A2 (rd_T81 xs i).f1.f1.length (rd_T81 xs i).f1.f1 ∧ (rd_T81 xs i).f2.f1.length ≤ c4 ∧ k24.C w A4 (rd_T81 xs i).f2.f1.length (rd_T81 xs i).f2.f1 := by
 obtain ⟨ad, c, e, _, hK, hc0⟩ := Kd.C_get h z81 i h0 h1
 have hc : ∀ j u, c[j]? = some u → w.cell? (ad.add (i.toNat * 5 + j)) = some u := hc0
 obtain ⟨A2, c2, A4, c4, rfl, l2, g2, l4, g4⟩ := k81_open hK
 exact ⟨ad, A2, c2, A4, c4, e, hc 0 _ rfl, by rw [← add_field _ _ 1 (by omega)]; exact hc 1 _ rfl, by rw [← add_field _ _ 2 (by omega)]; exact hc 2 _ rfl, by rw [← add_field _ _ 3 (by omega)]; exact hc 3 _ rfl, by rw [← add_field _ _ 4 (by omega)]; exact hc 4 _ rfl, l2, g2, l4, g4⟩
end
section
open Go.ChangeShapes Go.WideShapes Go.RowKit Go.Proofs.YtpfddihcikiofaaW.PrintWords Go.Proofs.YtpfddihcikiofaaW.PrintLast Go.Proofs.YtpfddihcikiofaaW.PrintMore
set_option maxRecDepth 100000
theorem list_of {α : Type} (P : Nat → α → Prop) : ∀ n, (∀ i, i < n → ∃ x, P i x) → ∃ l : List α, l.length = n ∧ ∀ i x, l[i]? = some x → P i x := by
 intro n
 induction n with
 | zero => intro _; exact ⟨[], rfl, fun i x h => by simp at h⟩
 | succ n ih =>
  intro h
  obtain ⟨l, hl, hP⟩ := ih (fun i hi => h i (by omega))
  obtain ⟨x, hx⟩ := h n (by omega)
  refine ⟨l ++ [x], by simp [hl], fun i y hy => ?_⟩
  rcases Nat.lt_or_ge i n with hlt | hge
  ·rw [List.getElem?_append_left (by omega)] at hy
   exact hP i y hy
  ·rw [List.getElem?_append_right (by omega)] at hy
   have : i = n := by
    have := (List.getElem?_eq_some_iff.1 hy).1
    simp at this
    omega
   subst this
   simp [hl] at hy
   exact hy ▸ hx
section
variable {H : Type} {enc : TypeId × Value → H} {W : World} {base b0 : Nat} {sp : Nat → Bool} {held : Bool}
def OpenT (W : World) (cs : List Value) (t : S24) : Prop := ∃ A c, cs = [.int .i64 t.f0, .slice A t.f1.length c] ∧ t.f1.length ≤ c ∧ k24.C W A t.f1.length t.f1 ∧ (Lit.int .i64 t.f0).wf = true
theorem OpenT.K {W : World} {cs : List Value} {t : S24} (h : OpenT W cs t) : k24.K W t cs := by
 obtain ⟨A, c, rfl, hl, hC, _⟩ := h
 exact k24_mk W t hl hC
theorem open_rows {fuel : Nat} (IH : ∀ cs x, DataW.trod enc Try.prog W base sp held fuel 24 cs = some x → ∃ t : S24, OpenT W cs t) {a : Addr} {len : Nat} {ys : List (DataW H × List MemPlace)} (hys : ys.length = len) (hm : len ≤ maxLen)
  (hel : ∀ i, i < len → (W.cells? base (a.add (i * Try.prog.cellsOf 24)) (Try.prog.cellsOf 24)).bind (DataW.trod enc Try.prog W base sp held fuel 24) = ys[i]?) : ∃ l : List S24, l.length = len ∧ k24.C W (some a) l.length l := by
 have hc : Try.prog.cellsOf 24 = 2 := by kernel_rfl
 have h1 : ∀ i, i < len → ∃ t : S24, ∃ cs, W.cells? base (a.add (i * 2)) 2 = some cs ∧ OpenT W cs t := by
  intro i hi
  have h := hel i hi
  rw [List.getElem?_eq_getElem (by omega), hc, Option.bind_eq_some_iff] at h
  obtain ⟨cs, hcs, ht⟩ := h
  obtain ⟨t, ht⟩ := IH _ _ ht
  exact ⟨t, cs, hcs, ht⟩
 obtain ⟨l, hl, hP⟩ := list_of _ len h1
 refine ⟨l, hl, rfl, by rw [hl]; exact hm, fun _ => ⟨a, rfl, fun j p hj => ?_⟩⟩
 obtain ⟨cs, hcs, ht⟩ := hP j p hj
 obtain ⟨_, hlen, hcell⟩ := World.cells?_some hcs
 refine ⟨cs, hlen, ht.K, fun i u hu => ?_⟩
 have hi : i < 2 := by
  have := (List.getElem?_eq_some_iff.1 hu).1
  omega
 have h := hcell i hi
 rw [hu] at h
 rw [← h]
 show W.cell? _ = W.cell? _
 congr 1
 show a.add (j * 2 + i) = (a.add (j * 2)).add i
 simp [Addr.add, Nat.add_assoc]
 by_cases hj0 : j = 0 <;> by_cases hi0 : i = 0 <;> (have hj2 : ¬ (j ≠ 0 ∧ j * 2 = 0) := by omega) <;> simp [hj0, hi0, Nat.add_assoc] <;> (rw [if_neg (show ¬ j * 2 = 0 by omega)]; simp [Nat.add_assoc])
theorem open_T24 : ∀ (fuel : Nat) (cs : List Value) (x : DataW H × List MemPlace), DataW.trod enc Try.prog W base sp held fuel 24 cs = some x → ∃ t : S24, OpenT W cs t := by
 intro fuel
 induction fuel using Nat.strongRecOn with
 | ind fuel IH =>
  intro cs x h
  obtain ⟨xs, n, rfl, rfl, hlen, hxs, hf⟩ := DataW.trod_struct Try.underlying24 h
  have hc : Try.prog.cellsOf 24 = 2 := by kernel_rfl
  rw [hc] at hlen
  obtain ⟨u, v, rfl⟩ : ∃ u v, cs = [u, v] := by
   match cs, hlen with
   | [u, v], _ => exact ⟨u, v, rfl⟩
  obtain ⟨y0, y1, rfl⟩ : ∃ u v, xs = [u, v] := by
   match xs, hxs with
   | [u, v], _ => exact ⟨u, v, rfl⟩
  have h0 := hf 0 _ rfl
  have h1 := hf 1 _ rfl
  have hc3 : Try.prog.cellsOf 3 = 1 := by kernel_rfl
  have hc22 : Try.prog.cellsOf 22 = 1 := by kernel_rfl
  simp only [hc3, hc22, List.drop_zero, List.take_succ_cons, List.take_zero, List.drop_succ_cons, List.getElem?_cons_zero, List.getElem?_cons_succ] at h0 h1
  obtain ⟨f, hfe, _, hw⟩ := DataW.trod_int Try.underlying3 h0
  injection hfe with hfe
  subst hfe
  rcases DataW.trod_slice Try.underlying22 h1 with ⟨he, _⟩ | ⟨a, len, cap, elems, rest, m, hm, he, _, _, hlc, hcm, hel, hget, _⟩
  ·injection he with he
   subst he
   exact ⟨⟨f, []⟩, none, 0, rfl, Nat.le_refl _, ⟨rfl, Nat.zero_le _, fun h => absurd h (Nat.lt_irrefl _)⟩, hw⟩
  ·injection he with he
   subst he
   obtain ⟨l, hl, hC⟩ := open_rows (IH m (by omega)) hel (by omega) hget
   subst hl
   exact ⟨⟨f, l⟩, some a, cap, rfl, hlc, hC, hw⟩
end
end
section
open Go.ChangeShapes Go.WideShapes Go.RowKit Go.Proofs.YtpfddihcikiofaaW.PrintWords Go.Proofs.YtpfddihcikiofaaW.PrintLast Go.Proofs.YtpfddihcikiofaaW.PrintMore
set_option maxRecDepth 100000
section
variable {H : Type} {enc : TypeId × Value → H} {W : World} {base b0 : Nat} {sp : Nat → Bool} {held : Bool}
theorem add_add0 (a : Addr) (i j : Nat) : (a.add i).add j = a.add (i + j) := by
 simp only [Addr.add]
 repeat' split
 all_goals first | rfl | (simp_all; omega) | simp_all [Nat.add_assoc]
theorem open_rowsG {α : Type} {d : Kd α} {t : TypeId} {fuel : Nat} (hc : Try.prog.cellsOf t = d.sz) (IH : ∀ cs x, DataW.trod enc Try.prog W base sp held fuel t cs = some x → ∃ y : α, d.K W y cs) {a : Addr} {len : Nat} {ys : List (DataW H × List MemPlace)} (hys : ys.length = len) (hm : len ≤ maxLen)
  (hel : ∀ i, i < len → (W.cells? base (a.add (i * Try.prog.cellsOf t)) (Try.prog.cellsOf t)).bind (DataW.trod enc Try.prog W base sp held fuel t) = ys[i]?) : ∃ l : List α, l.length = len ∧ d.C W (some a) l.length l := by
 have h1 : ∀ i, i < len → ∃ y : α, ∃ cs, W.cells? base (a.add (i * d.sz)) d.sz = some cs ∧ d.K W y cs := by
  intro i hi
  have h := hel i hi
  rw [List.getElem?_eq_getElem (by omega), hc, Option.bind_eq_some_iff] at h
  obtain ⟨cs, hcs, ht⟩ := h
  obtain ⟨y, ht⟩ := IH _ _ ht
  exact ⟨y, cs, hcs, ht⟩
 obtain ⟨l, hl, hP⟩ := list_of _ len h1
 refine ⟨l, hl, rfl, by rw [hl]; exact hm, fun _ => ⟨a, rfl, fun j p hj => ?_⟩⟩
 obtain ⟨cs, hcs, ht⟩ := hP j p hj
 obtain ⟨_, hlen, hcell⟩ := World.cells?_some hcs
 refine ⟨cs, hlen, ht, fun i u hu => ?_⟩
 have hi : i < d.sz := by
  have := (List.getElem?_eq_some_iff.1 hu).1
  omega
 have h := hcell i hi
 rw [hu] at h
 rw [← h, add_add0]
theorem open_B {fuel : Nat} {cs : List Value} {x : DataW H × List MemPlace} (h : DataW.trod enc Try.prog W base sp held fuel 112 cs = some x) : ∃ b : S112, k112.K W b cs := by
 obtain ⟨xs, n, rfl, rfl, hlen, hxs, hf⟩ := DataW.trod_struct Try.underlying112 h
 have hc : Try.prog.cellsOf 112 = 3 := by kernel_rfl
 rw [hc] at hlen
 obtain ⟨u, v, z, rfl⟩ : ∃ u v z, cs = [u, v, z] := by
  match cs, hlen with
  | [u, v, z], _ => exact ⟨u, v, z, rfl⟩
 obtain ⟨y0, y1, rfl⟩ : ∃ u v, xs = [u, v] := by
  match xs, hxs with
  | [u, v], _ => exact ⟨u, v, rfl⟩
 have h0 := hf 0 _ rfl
 have h1 := hf 1 _ rfl
 have hc3 : Try.prog.cellsOf 3 = 1 := by kernel_rfl
 have hc24 : Try.prog.cellsOf 24 = 2 := by kernel_rfl
 simp only [hc3, hc24, List.drop_zero, List.take_succ_cons, List.take_zero, List.drop_succ_cons, List.getElem?_cons_zero, List.getElem?_cons_succ] at h0 h1
 obtain ⟨f, hfe, _, hw⟩ := DataW.trod_int Try.underlying3 h0
 injection hfe with hfe
 subst hfe
 obtain ⟨t, A, c, he, hl, hC, _⟩ := open_T24 _ _ _ h1
 injection he with he1 he2
 injection he2 with he2 _
 subst he1 he2
 exact ⟨⟨f, t⟩, k112_mk W ⟨f, t⟩ hl hC⟩
theorem open_Lit {fuel : Nat} {cs : List Value} {x : DataW H × List MemPlace} (h : DataW.trod enc Try.prog W base sp held fuel 81 cs = some x) : ∃ b : S81, k81.K W b cs := by
 obtain ⟨xs, n, rfl, rfl, hlen, hxs, hf⟩ := DataW.trod_struct Try.underlying81 h
 have hc : Try.prog.cellsOf 81 = 5 := by kernel_rfl
 rw [hc] at hlen
 obtain ⟨u0, u1, u2, u3, u4, rfl⟩ : ∃ u0 u1 u2 u3 u4, cs = [u0, u1, u2, u3, u4] := by
  match cs, hlen with
  | [u0, u1, u2, u3, u4], _ => exact ⟨u0, u1, u2, u3, u4, rfl⟩
 obtain ⟨y0, y1, y2, rfl⟩ : ∃ u v z, xs = [u, v, z] := by
  match xs, hxs with
  | [u, v, z], _ => exact ⟨u, v, z, rfl⟩
 have h0 := hf 0 _ rfl
 have h1 := hf 1 _ rfl
 have h2 := hf 2 _ rfl
 have hc4 : Try.prog.cellsOf 4 = 1 := by kernel_rfl
 have hc24 : Try.prog.cellsOf 24 = 2 := by kernel_rfl
 simp only [hc4, hc24, List.drop_zero, List.take_succ_cons, List.take_zero, List.drop_succ_cons, List.getElem?_cons_zero, List.getElem?_cons_succ] at h0 h1 h2
 obtain ⟨b, hbe, _⟩ := DataW.trod_bool Try.underlying4 h0
 injection hbe with hbe
 subst hbe
 obtain ⟨t, A, c, he, hl, hC, _⟩ := open_T24 _ _ _ h1
 injection he with he1 he2
 injection he2 with he2 _
 subst he1 he2
 obtain ⟨t2, A2, c2, he, hl2, hC2, _⟩ := open_T24 _ _ _ h2
 injection he with he1 he2
 injection he2 with he2 _
 subst he1 he2
 exact ⟨⟨b, t, t2⟩, k81_mk W ⟨b, t, t2⟩ hl hC hl2 hC2⟩
theorem open_slice {α : Type} {d : Kd α} {st t : TypeId} (hu : Try.prog.underlying st = some (.slice t)) (hc : Try.prog.cellsOf t = d.sz) (IH : ∀ fuel cs x, DataW.trod enc Try.prog W base sp held fuel t cs = some x → ∃ y : α, d.K W y cs) {v : Value} {dd : DataW H} {p : List MemPlace} (hv : Value.okWide Try.prog W .any b0 st v) (h : DataW.Trod enc Try.prog W base sp held st v dd p) :
  ∃ (l : List α) (A : Option Addr) (c : Nat), v = .slice A l.length c ∧ l.length ≤ c ∧ d.C W A l.length l := by
 obtain ⟨A0, n0, c0, rfl⟩ := okWide_slice hu hv
 obtain ⟨fuel, h⟩ := h
 rcases DataW.trod_slice hu h with ⟨he, _⟩ | ⟨a, len, cap, elems, rest, m, hm, he, _, _, hlc, hcm, hel, hget, _⟩
 ·simp [Value.cells] at he
  obtain ⟨rfl, rfl, rfl⟩ := he
  exact ⟨[], none, 0, rfl, Nat.le_refl _, ⟨rfl, Nat.zero_le _, fun h => absurd h (Nat.lt_irrefl _)⟩⟩
 ·simp [Value.cells] at he
  obtain ⟨rfl, rfl, rfl⟩ := he
  obtain ⟨l, hl, hC⟩ := open_rowsG hc (IH m) hel (by omega) hget
  subst hl
  exact ⟨l, some a, c0, rfl, hlc, hC⟩
theorem open_Bs {v : Value} {d : DataW H} {p : List MemPlace} (hv : Value.okWide Try.prog W .any b0 59 v) (h : DataW.Trod enc Try.prog W base sp held 59 v d p) :
  ∃ (l : List S112) (A : Option Addr) (c : Nat), v = .slice A l.length c ∧ l.length ≤ c ∧ k112.C W A l.length l :=
 open_slice Try.underlying59 (by kernel_rfl) (fun fuel cs x h => open_B h) hv h
theorem open_Lits {v : Value} {d : DataW H} {p : List MemPlace} (hv : Value.okWide Try.prog W .any b0 65 v) (h : DataW.Trod enc Try.prog W base sp held 65 v d p) :
  ∃ (l : List S81) (A : Option Addr) (c : Nat), v = .slice A l.length c ∧ l.length ≤ c ∧ k81.C W A l.length l :=
 open_slice Try.underlying65 (by kernel_rfl) (fun fuel cs x h => open_Lit h) hv h
end
end
section
theorem S30.ind {motive : S30 → Prop} (h : ∀ f l, (∀ x ∈ l, motive x) → motive ⟨f, l⟩) : ∀ t, motive t := by
 intro t
 refine S30.rec (motive_1 := motive) (motive_2 := fun l => ∀ x ∈ l, motive x) ?_ ?_ ?_ t
 ·intro f l hl
  exact h f l hl
 ·intro x hx
  cases hx
 ·intro x l hx hl y hy
  rcases List.mem_cons.1 hy with rfl | hy
  ·exact hx
  ·exact hl y hy
mutual
def flatP : List Int → S30 → List (List Int × S30)
 | p, ⟨f, l⟩ => (p, ⟨f, l⟩) :: (if f < 0 then [] else flatPs p 0 l)
def flatPs : List Int → Nat → List S30 → List (List Int × S30)
 | _, _, [] => []
 | p, i, x :: r => flatP (p ++ [(i : Int)]) x ++ flatPs p (i + 1) r
end
theorem flatPs_snoc (p : List Int) (i : Nat) (l : List S30) (x : S30) : flatPs p i (l ++ [x]) = flatPs p i l ++ flatP (p ++ [((i + l.length : Nat) : Int)]) x := by
 induction l generalizing i with
 | nil => simp [flatPs]
 | cons y l ih =>
  simp only [List.cons_append, flatPs, ih, List.append_assoc, List.length_cons]
  rw [show i + 1 + l.length = i + (l.length + 1) from by omega]
theorem flatPs_take (p : List Int) (l : List S30) (k : Nat) (h : k < l.length) : flatPs p 0 (l.take (k + 1)) = flatPs p 0 (l.take k) ++ flatP (p ++ [(k : Int)]) l[k] := by
 rw [List.take_succ_eq_append_getElem h, flatPs_snoc]
 simp [Nat.min_eq_left (Nat.le_of_lt h)]
theorem flatPs_take_le (p : List Int) (l : List S30) (k : Nat) : (flatPs p 0 (l.take k)).length ≤ (flatPs p 0 l).length := by
 by_cases h : k < l.length
 ·have key : ∀ (a b : List S30) (i : Nat), (flatPs p i a).length ≤ (flatPs p i (a ++ b)).length := by
   intro a
   induction a with
   | nil => intro b i; simp [flatPs]
   | cons x a ih => intro b i; simp only [List.cons_append, flatPs, List.length_append]; have := ih b (i + 1); omega
  have := key (l.take k) (l.drop k) 0
  rwa [List.take_append_drop] at this
 ·rw [List.take_of_length_le (by omega)]; exact Nat.le_refl _
end
section
def upd {α : Type} (v : Nat → α) (i : Nat) (u : α) : Nat → α := fun j => if j = i then u else v j
theorem upd_same {α : Type} (v : Nat → α) (i : Nat) (u : α) : upd v i u i = u := by simp [upd]
theorem yag_ {α : Type} (v : Nat → α) {i j : Nat} (u : α) (h : j ≠ i) : upd v i u j = v j := by simp [upd, h]
def dstOf (ops : Array Oper) (i : Nat) : Option Tmp := (ops[i]?).bind (·.dst)
def regionOk (ops : Array Oper) (n : Nat) : Bool :=
 (List.range ops.size).all fun i =>
  ((ops[i]?).map fun o => o.after.all (fun e => !Region.binds .any e || decide (e.on < i))).getD false &&
  match dstOf ops i with
  | none => true
  | some t => decide (t < n) && (List.range ops.size).all fun j => decide (j = i) || decide (dstOf ops j ≠ some t)
structure Holds (ops : Array Oper) (base T : Array Value) (v : Nat → Value) (d : Nat → Bool) : Prop where
 size : T.size = base.size
 done : ∀ j t, d j = true → dstOf ops j = some t → T.getD t undef = v j
 base : ∀ t, (∀ j, d j = true → dstOf ops j ≠ some t) → T.getD t undef = base.getD t undef
def layAll (ops : Array Oper) (v : Nat → Value) (T : Array Value) : Array Value := (List.range ops.size).foldl (fun T i => match dstOf ops i with | some t => T.setIfInBounds t (v i) | none => T) T
section
variable {P : Program} {ops : Array Oper} {Q : Exit → Act → World → Prop}
def StepOk (P : Program) (ops : Array Oper) (Q : Exit → Act → World → Prop) (base : Array Value) (ds : List Deferred) (I : (Nat → Value) → (Nat → Bool) → World → Prop) (i : Nat) : Prop :=
 ∀ o, ops[i]? = some o → ∀ v d T w, Holds ops base T v d → I v d w → d i = false → (∀ e ∈ o.after, Region.binds .any e = true → d e.on = true) →
  ∀ K : Act → World → Prop, (∀ u w2, I (upd v i u) (upd d i true) w2 → K ({ tmps := T, defers := ds : Act }.put o.dst u) w2) →
   if Region.wanted o (yielded ops T) = true then Oper.wp P o { tmps := T, defers := ds } w K Q else K ({ tmps := T, defers := ds : Act }.put o.dst undef) w
theorem dst_inj {n : Nat} (h : regionOk ops n = true) {i j : Nat} {t : Tmp} (hi : dstOf ops i = some t) (hj : dstOf ops j = some t) : i = j ∧ t < n := by
 have hlt : ∀ {i : Nat}, dstOf ops i = some t → i < ops.size := by
  intro i hi
  unfold dstOf at hi
  rcases Nat.lt_or_ge i ops.size with h | h
  ·exact h
  ·rw [Array.getElem?_eq_none h] at hi; cases hi
 unfold regionOk at h
 rw [List.all_eq_true] at h
 have h1 := h i (List.mem_range.2 (hlt hi))
 rw [Bool.and_eq_true] at h1
 have h2 := h1.2
 rw [hi] at h2
 simp only [Bool.and_eq_true, decide_eq_true_eq, List.all_eq_true] at h2
 have h3 := h2.2 j (List.mem_range.2 (hlt hj))
 rw [Bool.or_eq_true, decide_eq_true_eq, decide_eq_true_eq] at h3
 rcases h3 with h3 | h3
 ·exact ⟨h3.symm, h2.1⟩
 ·exact absurd hj h3
theorem dep_lt {n : Nat} (h : regionOk ops n = true) {i : Nat} {o : Oper} (ho : ops[i]? = some o) : ∀ e ∈ o.after, Region.binds .any e = true → e.on < i := by
 have hlt : i < ops.size := (Array.getElem?_eq_some_iff.1 ho).1
 unfold regionOk at h
 rw [List.all_eq_true] at h
 have h1 := h i (List.mem_range.2 hlt)
 rw [Bool.and_eq_true] at h1
 have h2 := h1.1
 rw [ho] at h2
 simp only [Option.map_some, Option.getD_some, Array.all_eq_true'] at h2
 intro e he hb
 have h3 := h2 e he
 rw [hb] at h3
 simpa using h3
theorem Holds.put {base T : Array Value} {v : Nat → Value} {d : Nat → Bool} (h : Holds ops base T v d) (hr : regionOk ops base.size = true) {i : Nat} (hd : d i = false) (u : Value) (ds : List Deferred) :
  Holds ops base (({ tmps := T, defers := ds : Act }.put (dstOf ops i) u).tmps) (upd v i u) (upd d i true) := by
 cases hdi : dstOf ops i with
 | none =>
  refine ⟨h.size, fun j t hj hjt => ?_, fun t ht => h.base t (fun j hj => ?_)⟩
  ·have hne : j ≠ i := fun e => by subst e; rw [hdi] at hjt; cases hjt
   rw [yag_ _ _ hne] at hj ⊢
   exact h.done j t hj hjt
  ·have hne : j ≠ i := fun e => by subst e; rw [hd] at hj; cases hj
   exact ht j (by rw [yag_ _ _ hne]; exact hj)
 | some s =>
  have hs : s < base.size := (dst_inj hr hdi hdi).2
  have hput : (({ tmps := T, defers := ds : Act }.put (some s) u).tmps) = T.setIfInBounds s u := rfl
  rw [hput]
  have hget : ∀ t, (T.setIfInBounds s u).getD t undef = if t = s then u else T.getD t undef := by
   intro t
   simp only [Array.getD_eq_getD_getElem?, Array.getElem?_setIfInBounds]
   by_cases h1 : s = t
   ·subst h1
    simp [h.size, hs]
   ·simp [h1, Ne.symm h1]
  refine ⟨by simp [h.size], fun j t hj hjt => ?_, fun t ht => ?_⟩
  ·rw [hget]
   by_cases hji : j = i
   ·subst hji
    rw [hdi] at hjt
    injection hjt with hjt
    subst hjt
    rw [if_pos rfl, upd_same]
   ·rw [yag_ _ _ hji] at hj ⊢
    rw [if_neg (fun e => hji (by subst e; exact (dst_inj hr hjt hdi).1))]
    exact h.done j t hj hjt
  ·rw [hget, if_neg (fun e => ht i (upd_same _ _ _) (by rw [hdi, e]))]
   refine h.base t (fun j hj => ht j ?_)
   have hne : j ≠ i := fun e => by subst e; rw [hd] at hj; cases hj
   rw [yag_ _ _ hne]
   exact hj
theorem layAll_eq {base T : Array Value} {v : Nat → Value} {d : Nat → Bool} (h : Holds ops base T v d) (hr : regionOk ops base.size = true) (hall : ∀ i, i < ops.size → d i = true) : T = layAll ops v base := by
 have key : ∀ (n : Nat), n ≤ ops.size → ∀ t, ((List.range n).foldl (fun T i => match dstOf ops i with | some t => T.setIfInBounds t (v i) | none => T) base).size = base.size ∧
   (((List.range n).foldl (fun T i => match dstOf ops i with | some t => T.setIfInBounds t (v i) | none => T) base).getD t undef = T.getD t undef ∨
    ((∀ j, j < n → dstOf ops j ≠ some t) ∧ ((List.range n).foldl (fun T i => match dstOf ops i with | some t => T.setIfInBounds t (v i) | none => T) base).getD t undef = base.getD t undef)) := by
  intro n
  induction n with
  | zero => intro _ t; exact ⟨rfl, .inr ⟨fun j hj => by omega, rfl⟩⟩
  | succ n ih =>
   intro hn t
   obtain ⟨h1, h2⟩ := ih (by omega) t
   rw [List.range_succ, List.foldl_append]
   simp only [List.foldl_cons, List.foldl_nil]
   generalize (List.range n).foldl (fun T i => match dstOf ops i with | some t => T.setIfInBounds t (v i) | none => T) base = X at h1 h2 ⊢
   cases hd : dstOf ops n with
   | none =>
    refine ⟨h1, h2.imp_right (fun h3 => ⟨fun j hj => ?_, h3.2⟩)⟩
    rcases Nat.lt_or_ge j n with hlt | hge
    ·exact h3.1 j hlt
    ·rw [show j = n by omega, hd]; simp
   | some s =>
    have hs := (dst_inj hr hd hd).2
    refine ⟨by simp [h1], ?_⟩
    simp only [Array.getD_eq_getD_getElem?, Array.getElem?_setIfInBounds]
    by_cases hst : s = t
    ·subst hst
     left
     rw [if_pos rfl, if_pos (show s < X.size by rw [h1]; exact hs)]
     have := h.done n s (hall n (by omega)) hd
     rw [Array.getD_eq_getD_getElem?] at this
     rw [this]
     rfl
    ·rw [if_neg hst]
     simp only [Array.getD_eq_getD_getElem?] at h2
     refine h2.imp_right (fun h3 => ⟨fun j hj => ?_, h3.2⟩)
     rcases Nat.lt_or_ge j n with hlt | hge
     ·exact h3.1 j hlt
     ·rw [show j = n by omega, hd]
      intro e
      injection e with e
      exact hst e
 have hsz := (key ops.size (Nat.le_refl _) 0).1
 refine Array.ext (by rw [h.size]; exact hsz.symm) (fun t h1 h2 => ?_)
 have h3 := (key ops.size (Nat.le_refl _) t).2
 have h4 : (layAll ops v base).getD t undef = T.getD t undef := by
  rcases h3 with h3 | ⟨h3, h5⟩
  ·exact h3
  ·rw [h.base t (fun j hj e => h3 j (by
    unfold dstOf at e
    rcases Nat.lt_or_ge j ops.size with h | h
    ·exact h
    ·rw [Array.getElem?_eq_none h] at e; cases e) e)]
   exact h5
 simp only [Array.getD_eq_getD_getElem?, Array.getElem?_eq_getElem h1, Array.getElem?_eq_getElem h2, Option.getD_some] at h4
 exact h4.symm
theorem region_vals {id : Nat} {a : Act} {w : World} (hm : P.follows .mixedOrders = true) (hr : regionOk ops a.tmps.size = true) (I : (Nat → Value) → (Nat → Bool) → World → Prop)
  (h0 : ∀ v, I v (fun _ => false) w.drew) (hstep : ∀ i, StepOk P ops Q a.tmps a.defers I i)
  (hdone : ∀ v d w', (∀ i, i < ops.size → d i = true) → I v d w' → Q .normal { tmps := layAll ops v a.tmps, defers := a.defers } w') : (Code.region id ops true).wp P Q a w := by
 refine wp_region_any hm ?_
 have key : ∀ (fuel : Nat) (listed : Array Bool) (v : Nat → Value) (T : Array Value) (w' : World), listed.size = ops.size → (listed.toList.filter (· == false)).length ≤ fuel →
   Holds ops a.tmps T v (fun i => listed.getD i false) → I v (fun i => listed.getD i false) w' → wpAny P .any ops Q fuel listed { tmps := T, defers := a.defers } w' := by
  intro fuel
  induction fuel with
  | zero =>
   intro listed v T w' hl hf hH hI
   have hall : ∀ i, i < ops.size → listed.getD i false = true := by
    intro i hi
    have hmem : listed[i]'(by omega) ∈ listed.toList := by simp
    cases hb : listed[i]'(by omega) with
    | true => simp [Array.getD, hl, hi, hb]
    | false =>
     have : false ∈ listed.toList.filter (· == false) := by
      rw [List.mem_filter]
      exact ⟨hb ▸ hmem, rfl⟩
     have := List.length_pos_of_mem this
     omega
   have hready : Region.ready .any ops listed = [] := by
    unfold Region.ready
    rw [List.filter_eq_nil_iff]
    intro i hi
    rw [List.mem_range] at hi
    have h1 := hall i hi
    have h2 : listed.getD i true = true := by
     simp only [Array.getD_eq_getD_getElem?, Array.getElem?_eq_getElem (show i < listed.size by omega), Option.getD_some] at h1 ⊢
     exact h1
    simp only [h2, Bool.not_true, Bool.false_and]
    simp
   refine wpAny_done hready ?_ _
   rw [layAll_eq hH hr hall]
   exact hdone v _ w' hall hI
  | succ fuel ih =>
   intro listed v T w' hl hf hH hI
   refine ⟨fun hready => ?_, fun i hi => ?_⟩
   ·
    have hall : ∀ i, i < ops.size → listed.getD i false = true := by
     intro i
     induction i using Nat.strongRecOn with
     | ind i ihi =>
      intro hi
      cases hb : listed.getD i false with
      | true => rfl
      | false =>
       exfalso
       have ho : ops[i]? = some ops[i] := Array.getElem?_eq_getElem hi
       have hmem : i ∈ Region.ready .any ops listed := by
        unfold Region.ready
        rw [List.mem_filter]
        refine ⟨List.mem_range.2 hi, ?_⟩
        have h2 : listed.getD i true = false := by
         simp only [Array.getD_eq_getD_getElem?, Array.getElem?_eq_getElem (show i < listed.size by omega), Option.getD_some] at hb ⊢
         exact hb
        rw [h2, ho]
        simp only [Bool.not_false, Bool.true_and, Option.map_some, Option.getD_some, Array.all_eq_true']
        intro e he
        cases hbe : Region.binds .any e with
        | false => simp
        | true =>
         have hlt := dep_lt hr ho e he hbe
         rw [ihi e.on hlt (Nat.lt_trans hlt hi)]
         simp
       rw [hready] at hmem
       cases hmem
    rw [layAll_eq hH hr hall]
    exact hdone v _ w' hall hI
   ·unfold Region.ready at hi
    rw [List.mem_filter, List.mem_range] at hi
    obtain ⟨hi, hcond⟩ := hi
    have ho : ops[i]? = some ops[i] := Array.getElem?_eq_getElem hi
    rw [ho, Bool.and_eq_true] at hcond
    obtain ⟨hn, hdeps⟩ := hcond
    have hb : listed.getD i false = false := by
     simp only [Array.getD_eq_getD_getElem?, Array.getElem?_eq_getElem (show i < listed.size by omega), Option.getD_some] at hn ⊢
     simpa using hn
    simp only [Option.map_some, Option.getD_some, Array.all_eq_true'] at hdeps
    have hdd : (fun j => (listed.setIfInBounds i true).getD j false) = upd (fun j => listed.getD j false) i true := by
     funext j
     simp only [Array.getD_eq_getD_getElem?, Array.getElem?_setIfInBounds, upd]
     by_cases h1 : i = j
     ·subst h1
      simp [show i < listed.size by omega]
     ·simp [h1, Ne.symm h1]
    refine wpOp_step ho (fun K' hK' => ?_)
    refine hstep i _ ho v _ T w' hH hI hb (fun e he hbd => ?_) K' (fun u w2 h2 => hK' _ _ ?_)
    ·have := hdeps e he
     rw [hbd] at this
     simpa using this
    ·have hdst : (ops[i]).dst = dstOf ops i := by unfold dstOf; rw [ho]; rfl
     rw [hdst]
     have hH2 := hH.put hr hb u a.defers
     rw [← hdd] at hH2 h2
     have hde : ∀ (x : Option Tmp), ({ tmps := T, defers := a.defers : Act }.put x u) = { tmps := ({ tmps := T, defers := a.defers : Act }.put x u).tmps, defers := a.defers } := by
      intro x
      cases x <;> rfl
     rw [hde]
     refine ih _ (upd v i u) _ w2 (by simp [hl]) ?_ hH2 h2
     have hcount : ∀ (l : List Bool) (i : Nat), l[i]? = some false → ((l.set i true).filter (· == false)).length + 1 = (l.filter (· == false)).length := by
      intro l
      induction l with
      | nil => intro i h; simp at h
      | cons b l ih =>
       intro i h
       cases i with
       | zero =>
        simp at h
        subst h
        simp
       | succ i =>
        have := ih i (by simpa using h)
        cases b <;> simp only [List.set_cons_succ, List.filter_cons] <;> simp <;> simpa using this
     have h1 : listed.toList[i]? = some false := by
      simp only [Array.getD_eq_getD_getElem?, Array.getElem?_eq_getElem (show i < listed.size by omega), Option.getD_some] at hb
      rw [Array.getElem?_toList, Array.getElem?_eq_getElem (show i < listed.size by omega), hb]
     have := hcount listed.toList i h1
     rw [Array.toList_setIfInBounds]
     omega
 refine key ops.size _ (fun _ => undef) a.tmps _ (by simp) ?_ ?_ ?_
 ·exact Nat.le_trans (List.length_filter_le _ _) (by simp)
 ·have hf : ∀ i, (Array.replicate ops.size false).getD i false = false := by
   intro i
   simp only [Array.getD_eq_getD_getElem?, Array.getElem?_replicate]
   split <;> rfl
  exact ⟨rfl, fun j t hj => (by rw [hf] at hj; cases hj), fun t _ => rfl⟩
 ·have hf : (fun i => (Array.replicate ops.size false).getD i false) = (fun _ => false) := by
   funext i
   simp only [Array.getD_eq_getD_getElem?, Array.getElem?_replicate]
   split <;> rfl
  rw [hf]
  exact h0 _
end
end
section
def layFirst (ops : Array Oper) (m : Nat) (v : Nat → Value) (T : Array Value) : Array Value := (List.range m).foldl (fun T i => match dstOf ops i with | some t => T.setIfInBounds t (v i) | none => T) T
def waitsAll (ops : Array Oper) (m : Nat) : Bool :=
 decide (m ≤ ops.size) && (List.range ops.size).all fun i => decide (i < m) || ((ops[i]?).map fun o => (List.range m).all fun j => o.after.any fun e => Region.binds .any e && decide (e.on = j)).getD false
def firstDone (n m : Nat) : Array Bool := Array.ofFn (n := n) fun i => decide (i.val < m)
section
variable {P : Program} {ops : Array Oper} {Q : Exit → Act → World → Prop}
theorem layFirst_eq {base T : Array Value} {v : Nat → Value} {d : Nat → Bool} {m : Nat} (h : Holds ops base T v d) (hr : regionOk ops base.size = true) (hm : m ≤ ops.size) (hall : ∀ i, i < m → d i = true) (hrest : ∀ i, m ≤ i → d i = false) : T = layFirst ops m v base := by
 have key : ∀ (n : Nat), n ≤ m → ∀ t, ((List.range n).foldl (fun T i => match dstOf ops i with | some t => T.setIfInBounds t (v i) | none => T) base).size = base.size ∧
   (((List.range n).foldl (fun T i => match dstOf ops i with | some t => T.setIfInBounds t (v i) | none => T) base).getD t undef = T.getD t undef ∨
    ((∀ j, j < n → dstOf ops j ≠ some t) ∧ ((List.range n).foldl (fun T i => match dstOf ops i with | some t => T.setIfInBounds t (v i) | none => T) base).getD t undef = base.getD t undef)) := by
  intro n
  induction n with
  | zero => intro _ t; exact ⟨rfl, .inr ⟨fun j hj => by omega, rfl⟩⟩
  | succ n ih =>
   intro hn t
   obtain ⟨h1, h2⟩ := ih (by omega) t
   rw [List.range_succ, List.foldl_append]
   simp only [List.foldl_cons, List.foldl_nil]
   generalize (List.range n).foldl (fun T i => match dstOf ops i with | some t => T.setIfInBounds t (v i) | none => T) base = X at h1 h2 ⊢
   cases hd : dstOf ops n with
   | none =>
    refine ⟨h1, h2.imp_right (fun h3 => ⟨fun j hj => ?_, h3.2⟩)⟩
    rcases Nat.lt_or_ge j n with hlt | hge
    ·exact h3.1 j hlt
    ·rw [show j = n by omega, hd]; simp
   | some s =>
    have hs := (dst_inj hr hd hd).2
    refine ⟨by simp [h1], ?_⟩
    simp only [Array.getD_eq_getD_getElem?, Array.getElem?_setIfInBounds]
    by_cases hst : s = t
    ·subst hst
     left
     rw [if_pos rfl, if_pos (show s < X.size by rw [h1]; exact hs)]
     have := h.done n s (hall n (by omega)) hd
     rw [Array.getD_eq_getD_getElem?] at this
     rw [this]
     rfl
    ·rw [if_neg hst]
     simp only [Array.getD_eq_getD_getElem?] at h2
     refine h2.imp_right (fun h3 => ⟨fun j hj => ?_, h3.2⟩)
     rcases Nat.lt_or_ge j n with hlt | hge
     ·exact h3.1 j hlt
     ·rw [show j = n by omega, hd]
      intro e
      injection e with e
      exact hst e
 have hsz := (key m (Nat.le_refl _) 0).1
 refine Array.ext (by rw [h.size]; exact hsz.symm) (fun t h1 h2 => ?_)
 have h3 := (key m (Nat.le_refl _) t).2
 have h4 : (layFirst ops m v base).getD t undef = T.getD t undef := by
  rcases h3 with h3 | ⟨h3, h5⟩
  ·exact h3
  ·rw [h.base t (fun j hj e => by
    rcases Nat.lt_or_ge j m with hlt | hge
    ·exact h3 j hlt e
    ·rw [hrest j hge] at hj; cases hj)]
   exact h5
 simp only [Array.getD_eq_getD_getElem?, Array.getElem?_eq_getElem h1, Array.getElem?_eq_getElem h2, Option.getD_some] at h4
 exact h4.symm
theorem count_set : ∀ (l : List Bool) (i : Nat), l[i]? = some false → ((l.set i true).filter (· == false)).length + 1 = (l.filter (· == false)).length := by
 intro l
 induction l with
 | nil => intro i h; simp at h
 | cons b l ih =>
  intro i h
  cases i with
  | zero =>
   simp at h
   subst h
   simp
  | succ i =>
   have := ih i (by simpa using h)
   cases b <;> simp only [List.set_cons_succ, List.filter_cons] <;> simp <;> simpa using this
theorem count_first (n m : Nat) (hm : m ≤ n) : ((firstDone n m).toList.filter (· == false)).length = n - m := by
 unfold firstDone
 rw [Array.toList_ofFn]
 induction n with
 | zero => simp
 | succ n ih =>
  rw [List.ofFn_succ_last]
  rw [List.filter_append, List.length_append]
  rcases Nat.lt_or_ge n m with h | h
  ·have hmn : m = n + 1 := by omega
   subst hmn
   have : (List.ofFn (n := n) fun i => decide (i.castSucc.val < n + 1)).filter (· == false) = [] := by
    rw [List.filter_eq_nil_iff]
    intro x hx
    rw [List.mem_ofFn] at hx
    obtain ⟨i, rfl⟩ := hx
    have := i.isLt
    simp
    omega
   rw [this]
   simp
  ·have := ih (by omega)
   simp only [Fin.val_castSucc] at this ⊢
   rw [this]
   simp
   rw [show decide (n < m) = false from decide_eq_false (by omega)]
   simp
   omega
theorem region_seg {id : Nat} {a : Act} {w : World} (m : Nat) (hm : P.follows .mixedOrders = true) (hr : regionOk ops a.tmps.size = true) (hw : waitsAll ops m = true) (I : (Nat → Value) → (Nat → Bool) → World → Prop)
  (h0 : ∀ v, I v (fun _ => false) w.drew) (hstep : ∀ i, i < m → StepOk P ops Q a.tmps a.defers I i)
  (hrest : ∀ v d w', (∀ i, i < m → d i = true) → I v d w' → wpAny P .any ops Q (ops.size - m) (firstDone ops.size m) { tmps := layFirst ops m v a.tmps, defers := a.defers } w') : (Code.region id ops true).wp P Q a w := by
 unfold waitsAll at hw
 rw [Bool.and_eq_true, decide_eq_true_eq, List.all_eq_true] at hw
 obtain ⟨hms, hwait⟩ := hw
 refine wp_region_any hm ?_
 have key : ∀ (fuel : Nat) (listed : Array Bool) (v : Nat → Value) (T : Array Value) (w' : World), listed.size = ops.size → (listed.toList.filter (· == false)).length = fuel → (∀ j, m ≤ j → listed.getD j false = false) →
   Holds ops a.tmps T v (fun i => listed.getD i false) → I v (fun i => listed.getD i false) w' → wpAny P .any ops Q fuel listed { tmps := T, defers := a.defers } w' := by
  intro fuel
  induction fuel with
  | zero =>
   intro listed v T w' hl hf hge hH hI
   have hall : ∀ i, i < ops.size → listed.getD i false = true := by
    intro i hi
    have hmem : listed[i]'(by omega) ∈ listed.toList := by simp
    cases hb : listed[i]'(by omega) with
    | true => simp [Array.getD, hl, hi, hb]
    | false =>
     have : false ∈ listed.toList.filter (· == false) := by
      rw [List.mem_filter]
      exact ⟨hb ▸ hmem, rfl⟩
     have := List.length_pos_of_mem this
     omega
   have hmn : ops.size = m := by
    rcases Nat.lt_or_ge m ops.size with h | h
    ·have h1 := hall m h
     rw [hge m (Nat.le_refl _)] at h1
     cases h1
    ·omega
   have hlist : listed = firstDone ops.size m := by
    refine Array.ext (by simp [firstDone, hl]) (fun i h1 h2 => ?_)
    have h3 := hall i (by omega)
    simp only [Array.getD_eq_getD_getElem?, Array.getElem?_eq_getElem h1, Option.getD_some] at h3
    rw [h3]
    simp [firstDone]
    omega
   have := hrest v _ w' (fun i hi => hall i (by omega)) hI
   rw [layFirst_eq hH hr hms (fun i hi => hall i (by omega)) hge, hlist]
   simpa [hmn] using this
  | succ fuel ih =>
   intro listed v T w' hl hf hge hH hI
   by_cases hall : ∀ i, i < m → listed.getD i false = true
   ·have hlist : listed = firstDone ops.size m := by
     refine Array.ext (by simp [firstDone, hl]) (fun i h1 h2 => ?_)
     rcases Nat.lt_or_ge i m with h | h
     ·have h3 := hall i h
      simp only [Array.getD_eq_getD_getElem?, Array.getElem?_eq_getElem h1, Option.getD_some] at h3
      rw [h3]
      simp [firstDone, h]
     ·have h3 := hge i h
      simp only [Array.getD_eq_getD_getElem?, Array.getElem?_eq_getElem h1, Option.getD_some] at h3
      rw [h3]
      simp [firstDone]
      omega
    have hfu : fuel + 1 = ops.size - m := by
     rw [← hf, hlist, count_first _ _ hms]
    have := hrest v _ w' hall hI
    rw [layFirst_eq hH hr hms hall hge, hlist, hfu]
    exact this
   ·
    have hmin : ∃ i, i < m ∧ listed.getD i false = false ∧ ∀ j, j < i → listed.getD j false = true := by
     have hex : ∃ i, i < m ∧ listed.getD i false = false := by
      refine Classical.byContradiction (fun hne => hall (fun i hi => ?_))
      cases hb : listed.getD i false with
      | true => rfl
      | false => exact absurd ⟨i, hi, hb⟩ hne
     have hfind : ∀ n, (∃ i, i < n ∧ i < m ∧ listed.getD i false = false) → ∃ i, i < m ∧ listed.getD i false = false ∧ ∀ j, j < i → listed.getD j false = true := by
      intro n
      induction n with
      | zero => rintro ⟨i, h, _⟩; omega
      | succ n ihn =>
       rintro ⟨i, h1, h2, h3⟩
       by_cases hsm : ∃ i, i < n ∧ i < m ∧ listed.getD i false = false
       ·exact ihn hsm
       ·refine ⟨i, h2, h3, fun j hj => ?_⟩
        cases hb : listed.getD j false with
        | true => rfl
        | false => exact absurd ⟨j, by omega, by omega, hb⟩ hsm
     obtain ⟨i, h1, h2⟩ := hex
     exact hfind (i + 1) ⟨i, by omega, h1, h2⟩
    refine ⟨fun hready => ?_, fun i hi => ?_⟩
    ·exfalso
     obtain ⟨i, him, hb, hless⟩ := hmin
     have hi : i < ops.size := by omega
     have ho : ops[i]? = some ops[i] := Array.getElem?_eq_getElem hi
     have hmem : i ∈ Region.ready .any ops listed := by
      unfold Region.ready
      rw [List.mem_filter]
      refine ⟨List.mem_range.2 hi, ?_⟩
      have h2 : listed.getD i true = false := by
       simp only [Array.getD_eq_getD_getElem?, Array.getElem?_eq_getElem (show i < listed.size by omega), Option.getD_some] at hb ⊢
       exact hb
      rw [h2, ho]
      simp only [Bool.not_false, Bool.true_and, Option.map_some, Option.getD_some, Array.all_eq_true']
      intro e he
      cases hbe : Region.binds .any e with
      | false => simp
      | true =>
       rw [hless e.on (dep_lt hr ho e he hbe)]
       simp
     rw [hready] at hmem
     cases hmem
    ·unfold Region.ready at hi
     rw [List.mem_filter, List.mem_range] at hi
     obtain ⟨hi, hcond⟩ := hi
     have ho : ops[i]? = some ops[i] := Array.getElem?_eq_getElem hi
     rw [ho, Bool.and_eq_true] at hcond
     obtain ⟨hn, hdeps⟩ := hcond
     have hb : listed.getD i false = false := by
      simp only [Array.getD_eq_getD_getElem?, Array.getElem?_eq_getElem (show i < listed.size by omega), Option.getD_some] at hn ⊢
      simpa using hn
     simp only [Option.map_some, Option.getD_some, Array.all_eq_true'] at hdeps
     have him : i < m := by
      rcases Nat.lt_or_ge i m with h | h
      ·exact h
      ·exfalso
       refine hall (fun j hj => ?_)
       have h1 := hwait i (List.mem_range.2 hi)
       rw [ho, Bool.or_eq_true, decide_eq_true_eq] at h1
       have h2 := h1.resolve_left (by omega)
       simp only [Option.map_some, Option.getD_some, List.all_eq_true] at h2
       have h3 := h2 j (List.mem_range.2 hj)
       rw [Array.any_eq_true'] at h3
       obtain ⟨e, he, h4⟩ := h3
       rw [Bool.and_eq_true, decide_eq_true_eq] at h4
       have h5 := hdeps e he
       rw [h4.1, h4.2] at h5
       simpa using h5
     have hdd : (fun j => (listed.setIfInBounds i true).getD j false) = upd (fun j => listed.getD j false) i true := by
      funext j
      simp only [Array.getD_eq_getD_getElem?, Array.getElem?_setIfInBounds, upd]
      by_cases h1 : i = j
      ·subst h1
       simp [show i < listed.size by omega]
      ·simp [h1, Ne.symm h1]
     refine wpOp_step ho (fun K' hK' => ?_)
     refine hstep i him _ ho v _ T w' hH hI hb (fun e he hbd => ?_) K' (fun u w2 h2 => hK' _ _ ?_)
     ·have := hdeps e he
      rw [hbd] at this
      simpa using this
     ·have hdst : (ops[i]).dst = dstOf ops i := by unfold dstOf; rw [ho]; rfl
      rw [hdst]
      have hH2 := hH.put hr hb u a.defers
      rw [← hdd] at hH2 h2
      have hde : ∀ (x : Option Tmp), ({ tmps := T, defers := a.defers : Act }.put x u) = { tmps := ({ tmps := T, defers := a.defers : Act }.put x u).tmps, defers := a.defers } := by
       intro x
       cases x <;> rfl
      rw [hde]
      refine ih _ (upd v i u) _ w2 (by simp [hl]) ?_ (fun j hj => ?_) hH2 h2
      ·have h1 : listed.toList[i]? = some false := by
        simp only [Array.getD_eq_getD_getElem?, Array.getElem?_eq_getElem (show i < listed.size by omega), Option.getD_some] at hb
        rw [Array.getElem?_toList, Array.getElem?_eq_getElem (show i < listed.size by omega), hb]
       have := count_set listed.toList i h1
       rw [Array.toList_setIfInBounds]
       omega
      ·have h1 := hge j hj
       rw [Array.getD_eq_getD_getElem?] at h1 ⊢
       rw [Array.getElem?_setIfInBounds_ne (by omega)]
       exact h1
 have hf : ∀ i, (Array.replicate ops.size false).getD i false = false := by
  intro i
  simp only [Array.getD_eq_getD_getElem?, Array.getElem?_replicate]
  split <;> rfl
 refine key ops.size _ (fun _ => undef) a.tmps _ (by simp) ?_ (fun j _ => hf j) ?_ ?_
 ·rw [Array.toList_replicate, List.filter_eq_self.2 (fun x hx => by rw [List.eq_of_mem_replicate hx]; rfl)]
  simp
 ·exact ⟨rfl, fun j t hj => (by rw [hf] at hj; cases hj), fun t _ => rfl⟩
 ·have hf2 : (fun i => (Array.replicate ops.size false).getD i false) = (fun _ => false) := funext hf
  rw [hf2]
  exact h0 _
abbrev Told := Value → World → Prop
def Told.is (u : Value) : Told := fun v _ => v = u
def Told.grows (p : Told) : Prop := ∀ u (w w' : World), p u w → Below w.heap.size w w' → p u w'
theorem Told.is_grows (u : Value) : (Told.is u).grows := fun _ _ _ h _ => h
def DetI (w0 : World) (ps : List Told) (v : Nat → Value) (d : Nat → Bool) (w : World) : Prop := Below w0.heap.size w0 w ∧ ∀ j, d j = true → ∀ p, ps[j]? = some p → p (v j) w
def DetStep (P : Program) (ops : Array Oper) (Q : Exit → Act → World → Prop) (base : Array Value) (ds : List Deferred) (w0 : World) (ps : List Told) (o : Oper) (p : Told) : Prop :=
 ∀ (T : Array Value) (w : World), Below w0.heap.size w0 w →
  (∀ j t p, (o.after.any fun e => Region.binds .any e && decide (e.on = j)) = true → dstOf ops j = some t → ps[j]? = some p → p (T.getD t undef) w) →
  (∀ t, ((List.range ops.size).all fun j => decide (dstOf ops j ≠ some t)) = true → T.getD t undef = base.getD t undef) →
  ∀ K : Act → World → Prop, (∀ u w2, Below w.heap.size w w2 → p u w2 → K ({ tmps := T, defers := ds : Act }.put o.dst u) w2) →
   if Region.wanted o (yielded ops T) = true then Oper.wp P o { tmps := T, defers := ds } w K Q else K ({ tmps := T, defers := ds : Act }.put o.dst undef) w
def DetAll (P : Program) (ops : Array Oper) (Q : Exit → Act → World → Prop) (base : Array Value) (ds : List Deferred) (w0 : World) (m i : Nat) (ps : List Told) : Prop :=
 ∃ full : List Told, full.length = m ∧ full.take i = ps ∧ (∀ j, i ≤ j → j < m → ∀ o p, ops[j]? = some o → full[j]? = some p → p.grows ∧ DetStep P ops Q base ds w0 (full.take j) o p) ∧
  ∀ v w', Below w0.heap.size w0 w' → (∀ (j : Nat) (p : Told), full[j]? = some p → p (v j) w') → wpAny P .any ops Q (ops.size - m) (firstDone ops.size m) { tmps := layFirst ops m v base, defers := ds } w'
theorem DetAll.cons {base : Array Value} {ds : List Deferred} {w0 : World} {m i : Nat} {ps : List Told} {o : Oper} {p : Told} (ho : ops[i]? = some o) (hl : ps.length = i) (him : i < m) (hg : p.grows) (h : DetStep P ops Q base ds w0 ps o p)
  (hs : DetAll P ops Q base ds w0 m (i + 1) (ps ++ [p])) : DetAll P ops Q base ds w0 m i ps := by
 obtain ⟨full, h1, h2, h3, h4⟩ := hs
 have htk : full.take i = ps := by
  have h5 : full.take i = (full.take (i + 1)).take i := by rw [List.take_take, Nat.min_eq_left (by omega)]
  rw [h5, h2, List.take_append_of_le_length (by omega), List.take_of_length_le (by omega)]
 refine ⟨full, h1, htk, fun j hj hjm o' p' ho' hp' => ?_, h4⟩
 rcases Nat.lt_or_ge i j with hlt | hge
 ·exact h3 j hlt hjm o' p' ho' hp'
 ·have hji : j = i := by omega
  subst hji
  rw [ho] at ho'
  injection ho' with ho'
  subst ho'
  have h5 : full[j]? = some p := by
   have h6 : (full.take (j + 1))[j]? = (ps ++ [p])[j]? := by rw [h2]
   rw [List.getElem?_take_of_lt (by omega), List.getElem?_append_right (by omega)] at h6
   rw [h6]
   simp [hl]
  rw [h5] at hp'
  injection hp' with hp'
  subst hp'
  rw [htk]
  exact ⟨hg, h⟩
theorem DetAll.nil {base : Array Value} {ds : List Deferred} {w0 : World} {m i : Nat} {ps : List Told} (hl : ps.length = m) (hi : i = m)
  (h : ∀ v w', Below w0.heap.size w0 w' → (∀ (j : Nat) (p : Told), ps[j]? = some p → p (v j) w') → wpAny P .any ops Q (ops.size - m) (firstDone ops.size m) { tmps := layFirst ops m v base, defers := ds } w') : DetAll P ops Q base ds w0 m i ps :=
 ⟨ps, hl, List.take_of_length_le (by omega), fun j hj hjm => by omega, h⟩
theorem region_det {id : Nat} {a : Act} {w : World} (m : Nat) (hm : P.follows .mixedOrders = true) (hr : regionOk ops a.tmps.size = true) (hw : waitsAll ops m = true) (h : DetAll P ops Q a.tmps a.defers w m 0 []) : (Code.region id ops true).wp P Q a w := by
 obtain ⟨full, h1, _, h3, h4⟩ := h
 refine region_seg m hm hr hw (DetI w full) (fun v => ⟨bN_ (Below.refl _ _) 1, fun j hj => by cases hj⟩) (fun i him => ?_) (fun v d w' hall hI => h4 v w' hI.1 (fun j p hp => hI.2 j (hall j (by have := (List.getElem?_eq_some_iff.1 hp).1; omega)) p hp))
 intro o ho v d T w' hH hI hd hdep K hK
 have hp : full[i]? = some full[i] := List.getElem?_eq_getElem (by omega)
 obtain ⟨hg, hs⟩ := h3 i (Nat.zero_le _) him o _ ho hp
 refine hs T w' hI.1 (fun j t p hj hjt hjp => ?_) (fun t ht => hH.base t (fun j _ e => ?_)) K (fun u w2 hb2 hu => hK u w2 ⟨hI.1.trans (hb2.mono hI.1.size), fun j hj p hjp => ?_⟩)
 ·rw [Array.any_eq_true'] at hj
  obtain ⟨e, he, h5⟩ := hj
  rw [Bool.and_eq_true, decide_eq_true_eq] at h5
  have hdj : d j = true := by rw [← h5.2]; exact hdep e he h5.1
  rw [hH.done j t hdj hjt]
  have hji : j < i := by rw [← h5.2]; exact dep_lt hr ho e he h5.1
  rw [List.getElem?_take_of_lt hji] at hjp
  exact hI.2 j hdj p hjp
 ·rw [List.all_eq_true] at ht
  rcases Nat.lt_or_ge j ops.size with hlt | hge
  ·exact of_decide_eq_true (ht j (List.mem_range.2 hlt)) e
  ·unfold dstOf at e
   rw [Array.getElem?_eq_none hge] at e
   cases e
 ·by_cases hji : j = i
  ·subst hji
   rw [hp] at hjp
   injection hjp with hjp
   subst hjp
   rw [upd_same]
   exact hu
  ·rw [yag_ _ _ hji] at hj ⊢
   have hg2 := (h3 j (Nat.zero_le _) (by have := (List.getElem?_eq_some_iff.1 hjp).1; omega))
   rcases Nat.lt_or_ge j ops.size with hlt | hge
   ·exact (hg2 _ p (Array.getElem?_eq_getElem hlt) hjp).1 _ _ _ (hI.2 j hj p hjp) hb2
   ·exfalso
    have := (List.getElem?_eq_some_iff.1 hjp).1
    unfold waitsAll at hw
    rw [Bool.and_eq_true, decide_eq_true_eq] at hw
    omega
end
end
section
attribute [local go_sem] yaq_ yao_ max_two min_two yal_ yak_ yap_ yan_
mutual
def soriteslaw06_Small.j0 : Nat → Int → Int → Bool → Int → List (S24) → Option (Int)
 | 0, _, _, _, _, _ => none
 | k + 1, x1, x2, x25, x113000, x113001 => if x25 = true then (some (-1)) else (soriteslaw06_Small.l0 k (wrap64 (x1 - 1)) x2 0 x113000 x113001)
def soriteslaw06_Small.l0 : Nat → Int → Int → Int → Int → List (S24) → Option (Int)
 | 0, _, _, _, _, _ => none
 | k + 1, x1, x2, x7, x113000, x113001 => if x7 < (x113001.length : Int) then (if x1 ≥ 0 then (if 0 ≤ x7 then ((soriteslaw06_Small.f k ((rd_T24 x113001 x7).f0) ((rd_T24 x113001 x7).f1) x1 (wrap64 (x2 - 1))).bind fun t114 => (soriteslaw06_Small.l0 k t114 x2 (wrap64 (x7 + 1)) x113000 x113001)) else (none)) else (some x1)) else (some x1)
def soriteslaw06_Small.f : Nat → Int → List (S24) → Int → Int → Option (Int)
 | 0, _, _, _, _ => none
 | k + 1, a0_0, l0_1, a1, a2 => if a2 < 0 then (soriteslaw06_Small.j0 k a1 a2 true a0_0 l0_1) else (if a0_0 < (-1000) then (soriteslaw06_Small.j0 k a1 a2 true a0_0 l0_1) else (if a0_0 > 1000 then (soriteslaw06_Small.j0 k a1 a2 true a0_0 l0_1) else (soriteslaw06_Small.j0 k a1 a2 (decide ((l0_1.length : Int) > 20)) a0_0 l0_1)))
end
set_option maxHeartbeats 8000000 in
set_option maxRecDepth 100000 in
theorem soriteslaw06_Small.calls (k : Nat) : ∀ (a0_0 : Int) (A0_1 : Option Addr) (c0_1 : Nat) (l0_1 : List (S24)) (a1 : Int) (a2 : Int) (r : Int) (w : World) (hr0_1 : Kd.C k24 w A0_1 l0_1.length l0_1) (hc0_1 : l0_1.length ≤ c0_1) (h : soriteslaw06_Small.f k a0_0 l0_1 a1 a2 = some r),
  Calls Try.prog 50 #[.agg #[.int .i64 a0_0, .slice A0_1 l0_1.length c0_1], .int .i64 a1, .int .i64 a2] w fun e w' => e = .returned (.int .i64 r) ∧ Below w.heap.size w w' := by
 induction k using Nat.strongRecOn with
 | _ k ih =>
 intro a0_0 A0_1 c0_1 l0_1 a1 a2 r w hr0_1 hc0_1 h
 cases k with
 | zero => exact absurd h (by simp [soriteslaw06_Small.f])
 | succ k =>
 simp only [soriteslaw06_Small.f] at h
 have hu24 := Try.underlying24
 have HR0_1 := Az_.mk hr0_1
 have HC0_1 := Az_.mk hc0_1
 clear hr0_1 hc0_1
 have HB := Az_.mk (Below.refl w.heap.size w)
 have H : (if a2 < 0 then (soriteslaw06_Small.j0 k a1 a2 true a0_0 l0_1) else (if a0_0 < (-1000) then (soriteslaw06_Small.j0 k a1 a2 true a0_0 l0_1) else (if a0_0 > 1000 then (soriteslaw06_Small.j0 k a1 a2 true a0_0 l0_1) else (soriteslaw06_Small.j0 k a1 a2 (decide ((l0_1.length : Int) > 20)) a0_0 l0_1)))) = some r := h
 clear h
 have HC4 := Az_.mk H
 clear H
 go_enter Try.func50, Try.ntmps50
 go_upto_region 1 with (first | ((with_reducible refine yaj_ (N := 3) rfl ?_); (try (refine gate_guard (by rfl) ?_; dsimp only)); refine yai_ ?hg (N := 3) ?hd (cs := #[.int .i64 a0_0, .slice A0_1 l0_1.length c0_1]) (t := 24) ?hr ?_; (case hd => rfl); (case hg => rfl); (case hr => first | (go_simp; done) | (go_simp; rfl)); intro gb112 hg w5 hbox hb; have n0_ := Az_.mk (bT_ (by repeat (first | (with_reducible first | exact HB.out | apply bA_ | apply bN_ | apply bD_) | exact HB.out)) hb); have n1_ := Az_.mk (hbox); have n2_ := Az_.mk ((by rw [hg]; exact (bZ_ (by repeat (first | (with_reducible first | exact HB.out | apply bA_ | apply bN_ | apply bD_) | exact HB.out))) : w.heap.size ≤ gb112)); have n3_ := Az_.mk ((by rw [hg]; exact (bZ_ (by repeat (first | (with_reducible first | exact HB.out | apply bA_ | apply bN_ | apply bD_) | exact HB.out))) : w.heap.size ≤ gb112)); clear HB; have HB := n0_; have BK112 := n1_; have GW112 := n2_; have GE112 := n3_; clear n0_ n1_ n2_ n3_; clear hb hbox hg))
 (try simp only [Act.put, sA_, sZ_, sS_])
 go_cut [25] (fun v25 wc => ∃ (kq : Nat) (x25_3 : Bool), v25 = .bool x25_3 ∧ Az_ (soriteslaw06_Small.j0 kq a1 a2 x25_3 a0_0 l0_1 = some r) ∧ Az_ (kq ≤ k) ∧ Az_ (wc.heap[gb112]? = some (.cells #[.int .i64 a0_0, (.slice A0_1 l0_1.length c0_1)] 24 (0, 0))) ∧ Az_ (Below w.heap.size w wc))
 case first =>
  have H := HC4.out
  clear HC4
  by_cases c6 : a2 < 0
  ·rw [if_pos c6] at H
   have c6b0 : decide (a2 < 0) = true := decide_eq_true c6
   clear c6
   (first | rw [c6b0] | (simp only [i64_w, i32_w]; rw [c6b0]) | skip)
   have H' := Az_.mk H
   clear H
   go_wp2
   go_meet
   case rel => exact ⟨_, (true), (by first | rfl | (simp; done) | (simp [*]; done)), H', ⟨by first | omega | exact Nat.le_refl _⟩, ⟨by (with_reducible repeat (first | refine kN_ ?_ _ | refine kD_ ?_ | refine kA_ ?_ _)); exact BK112.out⟩, ⟨by repeat (first | (with_reducible first | exact HB.out | apply bA_ | apply bN_ | apply bD_ | refine bS_ ?_ GE112.out) | exact HB.out)⟩⟩
  ·rw [if_neg c6] at H
   have c6b0 : decide (a2 < 0) = false := decide_eq_false c6
   clear c6
   (first | rw [c6b0] | (simp only [i64_w, i32_w]; rw [c6b0]) | skip)
   by_cases c7 : a0_0 < (-1000)
   ·rw [if_pos c7] at H
    have c7b0 : decide (a0_0 < (-1000)) = true := decide_eq_true c7
    clear c7
    have H' := Az_.mk H
    clear H
    have hcz8_0 : w5.cell? ⟨gb112, 0, none⟩ = some (.int .i64 a0_0) := (yaa_ BK112.out 0).trans rfl
    have hcz8_1 : w5.cell? ⟨gb112, 1, none⟩ = some (.slice A0_1 l0_1.length c0_1) := (yaa_ BK112.out 1).trans rfl
    have hfz8_0 := yab_ BK112.out 0
    have hfz8_1 := yab_ BK112.out 1
    go_wp2
    go_meet
    case rel => exact ⟨_, (true), (by first | rfl | (simp; done) | (simp [*]; done)), H', ⟨by first | omega | exact Nat.le_refl _⟩, ⟨by (with_reducible repeat (first | refine kN_ ?_ _ | refine kD_ ?_ | refine kA_ ?_ _)); exact BK112.out⟩, ⟨by repeat (first | (with_reducible first | exact HB.out | apply bA_ | apply bN_ | apply bD_ | refine bS_ ?_ GE112.out) | exact HB.out)⟩⟩
   ·rw [if_neg c7] at H
    have c7b0 : decide (a0_0 < (-1000)) = false := decide_eq_false c7
    clear c7
    by_cases c9 : a0_0 > 1000
    ·rw [if_pos c9] at H
     have c9b0 : decide (1000 < a0_0) = true := decide_eq_true c9
     clear c9
     have H' := Az_.mk H
     clear H
     have hcz10_0 : w5.cell? ⟨gb112, 0, none⟩ = some (.int .i64 a0_0) := (yaa_ BK112.out 0).trans rfl
     have hcz10_1 : w5.cell? ⟨gb112, 1, none⟩ = some (.slice A0_1 l0_1.length c0_1) := (yaa_ BK112.out 1).trans rfl
     have hfz10_0 := yab_ BK112.out 0
     have hfz10_1 := yab_ BK112.out 1
     go_wp2
     go_meet
     case rel => exact ⟨_, (true), (by first | rfl | (simp; done) | (simp [*]; done)), H', ⟨by first | omega | exact Nat.le_refl _⟩, ⟨by (with_reducible repeat (first | refine kN_ ?_ _ | refine kD_ ?_ | refine kA_ ?_ _)); exact BK112.out⟩, ⟨by repeat (first | (with_reducible first | exact HB.out | apply bA_ | apply bN_ | apply bD_ | refine bS_ ?_ GE112.out) | exact HB.out)⟩⟩
    ·rw [if_neg c9] at H
     have c9b0 : decide (1000 < a0_0) = false := decide_eq_false c9
     clear c9
     have H' := Az_.mk H
     clear H
     have hcz11_0 : w5.cell? ⟨gb112, 0, none⟩ = some (.int .i64 a0_0) := (yaa_ BK112.out 0).trans rfl
     have hcz11_1 : w5.cell? ⟨gb112, 1, none⟩ = some (.slice A0_1 l0_1.length c0_1) := (yaa_ BK112.out 1).trans rfl
     have hfz11_0 := yab_ BK112.out 0
     have hfz11_1 := yab_ BK112.out 1
     go_wp2
     go_meet
     case rel => exact ⟨_, (decide ((l0_1.length : Int) > 20)), (by first | rfl | (simp; done) | (simp [*]; done)), H', ⟨by first | omega | exact Nat.le_refl _⟩, ⟨by (with_reducible repeat (first | refine kN_ ?_ _ | refine kD_ ?_ | refine kA_ ?_ _)); exact BK112.out⟩, ⟨by repeat (first | (with_reducible first | exact HB.out | apply bA_ | apply bN_ | apply bD_ | refine bS_ ?_ GE112.out) | exact HB.out)⟩⟩
 case rest =>
  clear HC4
  try clear p2
  try clear c5
  try clear c6
  try clear c6b0
  try clear c7
  try clear c7b0
  try clear c9
  try clear c9b0
  try clear hcz10_0
  try clear hcz10_1
  try clear hcz11_0
  try clear hcz11_1
  try clear hcz8_0
  try clear hcz8_1
  try clear hfz10_0
  try clear hfz10_1
  try clear hfz11_0
  try clear hfz11_1
  try clear hfz8_0
  try clear hfz8_1
  obtain ⟨kq, x25_3, rfl, HA, HJ3, BK112, HB⟩ := hcut
  cases kq with
  | zero => exact absurd HA.out (by simp [soriteslaw06_Small.j0])
  | succ kj3 =>
   have H := HA.out
   clear HA
   simp only [soriteslaw06_Small.j0] at H
   by_cases c12 : x25_3 = true
   ·subst c12
    have H1 : (some (-1)) = some r := by rw [if_pos rfl] at H; exact H
    clear H
    have H := H1
    clear H1
    obtain rfl := Option.some.inj H
    go_wp2
    go_ret
    exact ⟨by first | rfl | (simp [yae_, yad_] <;> rfl) | (simp [*, yae_, yad_] <;> rfl), by repeat (first | (with_reducible first | exact HB.out | apply bA_ | apply bN_ | apply bD_ | refine bS_ ?_ GE112.out) | exact HB.out)⟩
   ·replace c12 := Bool.eq_false_iff.mpr c12
    subst c12
    have H1 : (soriteslaw06_Small.l0 kj3 (wrap64 (a1 - 1)) a2 0 a0_0 l0_1) = some r := by rw [if_neg (show ¬ (false = true) by decide)] at H; exact H
    clear H
    have H := H1
    clear H1
    have H' := Az_.mk H
    clear H
    go_wp2
    go_loopg [1, 7] kj3 (fun kq v1 v7 w' => ∃ (x1_2 : Int) (x7_2 : Int), v1 = .int .i64 x1_2 ∧ v7 = .int .i64 x7_2 ∧ Az_ (soriteslaw06_Small.l0 kq x1_2 a2 x7_2 a0_0 l0_1 = some r) ∧ Az_ (kq ≤ kj3) ∧ Az_ (w'.heap[gb112]? = some (.cells #[.int .i64 a0_0, (.slice A0_1 l0_1.length c0_1)] 24 (0, 0))) ∧ Az_ (Below w.heap.size w w'))
    case atStart => exact ⟨(wrap64 (a1 - 1)), (0), (by first | rfl | (simp; done) | (simp [*]; done)), (by first | rfl | (simp; done) | (simp [*]; done)), H', ⟨Nat.le_refl _⟩, ⟨by (with_reducible repeat (first | refine kN_ ?_ _ | refine kD_ ?_ | refine kA_ ?_ _)); exact BK112.out⟩, ⟨by repeat (first | (with_reducible first | exact HB.out | apply bA_ | apply bN_ | apply bD_ | refine bS_ ?_ GE112.out) | exact HB.out)⟩⟩
    case round =>
     clear H'
     try clear c1
     try clear p2
     try clear c5
     try clear c6
     try clear c6b0
     try clear p6
     try clear c7
     try clear c7b0
     try clear c9
     try clear c9b0
     try clear c12
     try clear hcz10_0
     try clear hcz10_1
     try clear hcz11_0
     try clear hcz11_1
     try clear hcz8_0
     try clear hcz8_1
     try clear hfz10_0
     try clear hfz10_1
     try clear hfz11_0
     try clear hfz11_1
     try clear hfz8_0
     try clear hfz8_1
     try clear p2
     obtain ⟨x1_2, x7_2, rfl, rfl, HA, HK2, BK112, HB⟩ := hrel
     cases gk with
     | zero => exact absurd HA.out (by simp [soriteslaw06_Small.l0])
     | succ k2 =>
      have H := HA.out
      clear HA
      simp only [soriteslaw06_Small.l0] at H
      by_cases c13 : x7_2 < (l0_1.length : Int)
      ·rw [if_pos c13] at H
       have c13b0 : decide (x7_2 < (l0_1.length : Int)) = true := decide_eq_true c13
       clear c13
       by_cases c14 : x1_2 ≥ 0
       ·rw [if_pos c14] at H
        have c14b0 : decide (0 ≤ x1_2) = true := decide_eq_true c14
        clear c14
        by_cases c15 : 0 ≤ x7_2
        ·rw [if_pos c15] at H
         have c15b0 : decide (0 ≤ x7_2) = true := decide_eq_true c15
         clear c15
         replace H := Option.bind_eq_some_iff.mp H
         obtain ⟨t114, A160, H⟩ := H
         replace H : (soriteslaw06_Small.l0 k2 t114 a2 (wrap64 (x7_2 + 1)) a0_0 l0_1) = some r := H
         have A16 := Az_.mk A160
         clear A160
         have H' := Az_.mk H
         clear H
         have hcz17_0 : wr.cell? ⟨gb112, 0, none⟩ = some (.int .i64 a0_0) := (yaa_ BK112.out 0).trans rfl
         have hcz17_1 : wr.cell? ⟨gb112, 1, none⟩ = some (.slice A0_1 l0_1.length c0_1) := (yaa_ BK112.out 1).trans rfl
         have hfz17_0 := yab_ BK112.out 0
         have hfz17_1 := yab_ BK112.out 1
         have p113 : 0 ≤ (x7_2 : Int) := of_decide_eq_true (by first | (with_reducible assumption) | assumption)
         have q113 : x7_2 < (l0_1.length : Int) := of_decide_eq_true (by first | (with_reducible assumption) | assumption)
         obtain ⟨ad113, A113_1, c113_1, e113, hx113_0, hx113_1, hl113_1, hi113_1⟩ := at_T24 HR0_1.out x7_2 p113 q113
         cases e113
         replace hx113_0 := (HB.out.cell (World.block_lt_of_cell? w _ hx113_0)).trans hx113_0
         replace hx113_1 := (HB.out.cell (World.block_lt_of_cell? w _ hx113_1)).trans hx113_1
         have HR113_1 := Az_.mk hi113_1
         have HC113_1 := Az_.mk hl113_1
         clear hi113_1 hl113_1
         replace p113 := eq_true p113
         replace q113 := eq_true q113
         go_wp2_with (first | ((with_reducible refine yah_ (f := 50) rfl ?_); refine goesL_ (some 47) rfl rfl Try.func50 (by kernel_rfl) rfl #[.agg #[.int .i64 ((rd_T24 l0_1 x7_2).f0), .slice A113_1 ((rd_T24 l0_1 x7_2).f1).length c113_1], .int .i64 x1_2, .int .i64 (wrap64 (a2 - 1))] rfl (by (try simp only [List.map_toArray, List.map_cons, List.map_nil]); first | done | rfl | (simp only [List.length_drop, List.length_take]; rfl)) ?_; (with_reducible refine (ih k2 (by have := HJ3.out; have := HK2.out; omega) ((rd_T24 l0_1 x7_2).f0) _ _ ((rd_T24 l0_1 x7_2).f1) x1_2 (wrap64 (a2 - 1)) t114 _ ?side1 ?side2 A16.out).mono ?_); (case side1 => repeat (first | exact (Kd.C_below HR113_1.out HB.out) | (with_reducible refine Kd.C_alloc ?_ _) | (with_reducible refine Kd.C_drewN ?_ _) | (with_reducible refine Kd.C_drew ?_))); (case side2 => exact HC113_1.out); rintro e w18 ⟨rfl, hb⟩; refine ⟨_, rfl, ?_⟩; have n0_ := Az_.mk (kB_ (g := gb112) (o := .cells #[.int .i64 a0_0, .slice (some ad113) l0_1.length c0_1] 24 (0, 0)) (by (with_reducible repeat (first | refine kN_ ?_ _ | refine kD_ ?_ | refine kA_ ?_ _)); exact BK112.out) hb); have n1_ := Az_.mk (bT_ (by repeat (first | (with_reducible first | exact HB.out | apply bA_ | apply bN_ | apply bD_ | refine bS_ ?_ GE112.out) | exact HB.out)) hb); clear BK112; clear HB; have BK112 := n0_; have HB := n1_; clear n0_ n1_; (try clear hb); (try clear hb2); (try clear hk); (try clear hi)))
         go_roundg k2
         case measure => have := HJ3.out; have := HK2.out; omega
         case rel => exact ⟨(t114), (wrap64 (x7_2 + 1)), (by first | rfl | (simp; done) | (simp [*]; done)), (by first | rfl | (simp; done) | (simp [*]; done)), H', ⟨by have := HJ3.out; have := HK2.out; omega⟩, ⟨by (with_reducible repeat (first | refine kN_ ?_ _ | refine kD_ ?_ | refine kA_ ?_ _)); exact BK112.out⟩, ⟨by repeat (first | (with_reducible first | exact HB.out | apply bA_ | apply bN_ | apply bD_ | refine bS_ ?_ GE112.out) | exact HB.out)⟩⟩
        ·rw [if_neg c15] at H
         exact absurd H (by simp)
       ·rw [if_neg c14] at H
        have c14b0 : decide (0 ≤ x1_2) = false := decide_eq_false c14
        clear c14
        obtain rfl := Option.some.inj H
        have hcz19_0 : wr.cell? ⟨gb112, 0, none⟩ = some (.int .i64 a0_0) := (yaa_ BK112.out 0).trans rfl
        have hcz19_1 : wr.cell? ⟨gb112, 1, none⟩ = some (.slice A0_1 l0_1.length c0_1) := (yaa_ BK112.out 1).trans rfl
        have hfz19_0 := yab_ BK112.out 0
        have hfz19_1 := yab_ BK112.out 1
        go_wp2
        go_ret
        exact ⟨by first | rfl | (simp [yae_, yad_] <;> rfl) | (simp [*, yae_, yad_] <;> rfl), by repeat (first | (with_reducible first | exact HB.out | apply bA_ | apply bN_ | apply bD_ | refine bS_ ?_ GE112.out) | exact HB.out)⟩
      ·rw [if_neg c13] at H
       have c13b0 : decide (x7_2 < (l0_1.length : Int)) = false := decide_eq_false c13
       clear c13
       obtain rfl := Option.some.inj H
       have hcz20_0 : wr.cell? ⟨gb112, 0, none⟩ = some (.int .i64 a0_0) := (yaa_ BK112.out 0).trans rfl
       have hcz20_1 : wr.cell? ⟨gb112, 1, none⟩ = some (.slice A0_1 l0_1.length c0_1) := (yaa_ BK112.out 1).trans rfl
       have hfz20_0 := yab_ BK112.out 0
       have hfz20_1 := yab_ BK112.out 1
       go_wp2
       go_ret
       exact ⟨by first | rfl | (simp [yae_, yad_] <;> rfl) | (simp [*, yae_, yad_] <;> rfl), by repeat (first | (with_reducible first | exact HB.out | apply bA_ | apply bN_ | apply bD_ | refine bS_ ?_ GE112.out) | exact HB.out)⟩
end
section
attribute [local go_sem] yaq_ yao_ max_two min_two yal_ yak_ yap_ yan_
mutual
def soriteslaw06_Of.l0 : Nat → Int → Int → List (S24) → Int → List (S30) → Option (Int × (List (S30)))
 | 0, _, _, _, _, _ => none
 | k + 1, x4, x118000, x118001, x120000, x120001 => if x4 < (x118001.length : Int) then (if 0 ≤ x4 then ((soriteslaw06_Of.f k ((rd_T24 x118001 x4).f0) ((rd_T24 x118001 x4).f1)).bind fun bt121 => (if x120001.length < 4398046511104 then (soriteslaw06_Of.l0 k (wrap64 (x4 + 1)) x118000 x118001 x120000 (x120001 ++ [(⟨bt121.1, bt121.2⟩ : S30)])) else (none))) else (none)) else (some (x120000, x120001))
def soriteslaw06_Of.f : Nat → Int → List (S24) → Option (Int × (List (S30)))
 | 0, _, _ => none
 | k + 1, a0_0, l0_1 => soriteslaw06_Of.l0 k 0 a0_0 l0_1 a0_0 ([] : List (S30))
end
def soriteslaw06_Of.T5 : Bool × List (List Nat × List Nat) := (true, [([], []), ([0], [0]), ([], []), ([2], [2]), ([], []), ([3, 4], [3, 4]), ([5], [5]), ([6], [6]), ([7], [7]), ([1, 8, 7], [1, 8]), ([0, 1, 2, 3, 4, 5, 6, 7, 8, 9], []), ([10, 9, 9, 0, 1, 2, 3, 4, 5, 6, 7, 8, 9], [9, 10])])
def soriteslaw06_Of.B5 : List Nat := [0, 1, 0, 4, 0, 28, 60, 124, 252, 511, 1023, 2047]
theorem soriteslaw06_Of.tab5 : rtab .any (opsOf Try.f22 5) = soriteslaw06_Of.T5 := by kernel_rfl
theorem soriteslaw06_Of.bits5 : waitsOk soriteslaw06_Of.T5.2 soriteslaw06_Of.B5 = true := by kernel_rfl
set_option maxHeartbeats 8000000 in
set_option maxRecDepth 100000 in
theorem soriteslaw06_Of.calls (k : Nat) : ∀ (a0_0 : Int) (A0_1 : Option Addr) (c0_1 : Nat) (l0_1 : List (S24)) (r1 : Int) (r2 : List (S30)) (w : World) (hr0_1 : Kd.C k24 w A0_1 l0_1.length l0_1) (hc0_1 : l0_1.length ≤ c0_1) (h : soriteslaw06_Of.f k a0_0 l0_1 = some (r1, r2)),
  Calls Try.prog 22 #[.agg #[.int .i64 a0_0, .slice A0_1 l0_1.length c0_1]] w fun e w' => ∃ v1_ : Value, e = .returned (.agg #[.int .i64 r1, v1_]) ∧ Kd.R k30 30 w' w.heap.size (fun _ => True) v1_ r2 ∧ Below w.heap.size w w' := by
 induction k using Nat.strongRecOn with
 | _ k ih =>
 intro a0_0 A0_1 c0_1 l0_1 r1 r2 w hr0_1 hc0_1 h
 cases k with
 | zero => exact absurd h (by simp [soriteslaw06_Of.f])
 | succ k =>
 simp only [soriteslaw06_Of.f] at h
 have hu24 := Try.underlying24
 have hu30 := Try.underlying30
 have HR0_1 := Az_.mk hr0_1
 have HC0_1 := Az_.mk hc0_1
 clear hr0_1 hc0_1
 have HB := Az_.mk (Below.refl w.heap.size w)
 have H : (soriteslaw06_Of.l0 k 0 a0_0 l0_1 a0_0 ([] : List (S30))) = some (r1, r2) := h
 clear h
 have H' := Az_.mk H
 clear H
 go_enter Try.func22, Try.ntmps22
 go_wp2_with (first | ((with_reducible refine yaj_ (N := 1) rfl ?_); refine yai_ ?hg (N := 1) ?hd (cs := #[.int .i64 a0_0, .slice A0_1 l0_1.length c0_1]) (t := 24) ?hr ?_; (case hd => rfl); (case hg => rfl); (case hr => first | (go_simp; done) | (go_simp; rfl)); intro gb117 hg w2 hbox hb; have n0_ := Az_.mk (bT_ (by repeat (first | (with_reducible first | exact HB.out | apply bA_ | apply bN_ | apply bD_) | exact HB.out)) hb); have n1_ := Az_.mk (hbox); have n2_ := Az_.mk ((by rw [hg]; exact (bZ_ (by repeat (first | (with_reducible first | exact HB.out | apply bA_ | apply bN_ | apply bD_) | exact HB.out))) : w.heap.size ≤ gb117)); have n3_ := Az_.mk ((by rw [hg]; exact (bZ_ (by repeat (first | (with_reducible first | exact HB.out | apply bA_ | apply bN_ | apply bD_) | exact HB.out))) : w.heap.size ≤ gb117)); clear HB; have HB := n0_; have BK117 := n1_; have GW117 := n2_; have GE117 := n3_; clear n0_ n1_ n2_ n3_; clear hb hbox hg) | ((with_reducible refine yaj_ (N := 2) rfl ?_); refine yai_ ?hg (N := 2) ?hd (cs := #[.int .i64 0, .slice none 0 0]) (t := 30) ?hr ?_; (case hd => rfl); (case hg => rfl); (case hr => first | (go_simp; done) | (go_simp; rfl)); intro gb118 hg w3 hbox hb; have n0_ := Az_.mk (kB_ (g := gb117) (o := .cells #[.int .i64 a0_0, .slice A0_1 l0_1.length c0_1] 24 (0, 0)) (by (with_reducible repeat (first | refine kN_ ?_ _ | refine kD_ ?_ | refine kA_ ?_ _)); exact BK117.out) hb); have n1_ := Az_.mk (bT_ (by repeat (first | (with_reducible first | exact HB.out | apply bA_ | apply bN_ | apply bD_ | refine bS_ ?_ GE117.out) | exact HB.out)) hb); have n2_ := Az_.mk (hbox); have n3_ := Az_.mk ((by rw [hg]; exact (bZ_ (by repeat (first | (with_reducible first | exact HB.out | apply bA_ | apply bN_ | apply bD_ | refine bS_ ?_ GE117.out) | exact HB.out))) : w.heap.size ≤ gb118)); have n4_ := Az_.mk ((by rw [hg]; exact (bZ_ (by repeat (first | (with_reducible first | exact HB.out | apply bA_ | apply bN_ | apply bD_ | refine bS_ ?_ GE117.out) | exact HB.out))) : w.heap.size ≤ gb118)); have n5_ := Az_.mk ((by rw [hg]; exact Nat.ne_of_lt (blk_lt (g := gb117) (o := .cells #[.int .i64 a0_0, .slice A0_1 l0_1.length c0_1] 24 (0, 0)) (by (with_reducible repeat (first | refine kN_ ?_ _ | refine kD_ ?_ | refine kA_ ?_ _)); exact BK117.out)) : gb117 ≠ gb118)); have n6_ := Az_.mk ((by rw [hg]; exact Nat.ne_of_gt (blk_lt (g := gb117) (o := .cells #[.int .i64 a0_0, .slice A0_1 l0_1.length c0_1] 24 (0, 0)) (by (with_reducible repeat (first | refine kN_ ?_ _ | refine kD_ ?_ | refine kA_ ?_ _)); exact BK117.out)) : gb118 ≠ gb117)); clear BK117; clear HB; have BK117 := n0_; have HB := n1_; have BK118 := n2_; have GW118 := n3_; have GE118 := n4_; have NB117_118 := n5_; have NB118_117 := n6_; clear n0_ n1_ n2_ n3_ n4_ n5_ n6_; clear hb hbox hg; have hnb4 := NB117_118.out; have hnc4 := NB118_117.out; have hcz5_0 : w3.cell? ⟨gb117, 0, none⟩ = some (.int .i64 a0_0) := (yaa_ BK117.out 0).trans rfl; have hcz5_1 : w3.cell? ⟨gb117, 1, none⟩ = some (.slice A0_1 l0_1.length c0_1) := (yaa_ BK117.out 1).trans rfl; have hfz5_0 := yab_ BK117.out 0; have hfz5_1 := yab_ BK117.out 1) | ((with_reducible refine yaj_ (N := 3) rfl ?_); refine yai_ ?hg (N := 3) ?hd (cs := #[.int .i64 0, .slice none 0 0]) (t := 30) ?hr ?_; (case hd => rfl); (case hg => rfl); (case hr => first | (go_simp; done) | (go_simp; rfl)); intro gb119 hg w6 hbox hb; have n0_ := Az_.mk (kB_ (g := gb117) (o := .cells #[.int .i64 a0_0, .slice A0_1 l0_1.length c0_1] 24 (0, 0)) (by (with_reducible repeat (first | refine kN_ ?_ _ | refine kD_ ?_ | refine kA_ ?_ _)); exact BK117.out) hb); have n1_ := Az_.mk (kB_ (g := gb118) (o := .cells #[.int .i64 0, .slice none 0 0] 30 (0, 0)) (by (with_reducible repeat (first | refine kN_ ?_ _ | refine kD_ ?_ | refine kA_ ?_ _)); exact BK118.out) hb); have n2_ := Az_.mk (bT_ (by repeat (first | (with_reducible first | exact HB.out | apply bA_ | apply bN_ | apply bD_ | refine bS_ ?_ GE117.out | refine bS_ ?_ GE118.out) | exact HB.out)) hb); have n3_ := Az_.mk (hbox); have n4_ := Az_.mk ((by rw [hg]; exact (bZ_ (by repeat (first | (with_reducible first | exact HB.out | apply bA_ | apply bN_ | apply bD_ | refine bS_ ?_ GE117.out | refine bS_ ?_ GE118.out) | exact HB.out))) : w.heap.size ≤ gb119)); have n5_ := Az_.mk ((by rw [hg]; exact (bZ_ (by repeat (first | (with_reducible first | exact HB.out | apply bA_ | apply bN_ | apply bD_ | refine bS_ ?_ GE117.out | refine bS_ ?_ GE118.out) | exact HB.out))) : w.heap.size ≤ gb119)); have n6_ := Az_.mk ((by rw [hg]; exact Nat.ne_of_lt (blk_lt (g := gb117) (o := .cells #[.int .i64 a0_0, .slice A0_1 l0_1.length c0_1] 24 (0, 0)) (by (with_reducible repeat (first | refine kN_ ?_ _ | refine kD_ ?_ | refine kA_ ?_ _)); exact BK117.out)) : gb117 ≠ gb119)); have n7_ := Az_.mk ((by rw [hg]; exact Nat.ne_of_gt (blk_lt (g := gb117) (o := .cells #[.int .i64 a0_0, .slice A0_1 l0_1.length c0_1] 24 (0, 0)) (by (with_reducible repeat (first | refine kN_ ?_ _ | refine kD_ ?_ | refine kA_ ?_ _)); exact BK117.out)) : gb119 ≠ gb117)); have n8_ := Az_.mk ((by rw [hg]; exact Nat.ne_of_lt (blk_lt (g := gb118) (o := .cells #[.int .i64 0, .slice none 0 0] 30 (0, 0)) (by (with_reducible repeat (first | refine kN_ ?_ _ | refine kD_ ?_ | refine kA_ ?_ _)); exact BK118.out)) : gb118 ≠ gb119)); have n9_ := Az_.mk ((by rw [hg]; exact Nat.ne_of_gt (blk_lt (g := gb118) (o := .cells #[.int .i64 0, .slice none 0 0] 30 (0, 0)) (by (with_reducible repeat (first | refine kN_ ?_ _ | refine kD_ ?_ | refine kA_ ?_ _)); exact BK118.out)) : gb119 ≠ gb118)); clear BK117; clear BK118; clear HB; have BK117 := n0_; have BK118 := n1_; have HB := n2_; have BK119 := n3_; have GW119 := n4_; have GE119 := n5_; have NB117_119 := n6_; have NB119_117 := n7_; have NB118_119 := n8_; have NB119_118 := n9_; clear n0_ n1_ n2_ n3_ n4_ n5_ n6_ n7_ n8_ n9_; clear hb hbox hg; have hnb7 := NB119_117.out; have hnc7 := NB117_119.out; have hnb8 := NB119_118.out; have hnc8 := NB118_119.out; have hcz9_0 : w6.cell? ⟨gb119, 0, none⟩ = some (.int .i64 0) := (yaa_ BK119.out 0).trans rfl; have hcz9_1 : w6.cell? ⟨gb119, 1, none⟩ = some (.slice none 0 0) := (yaa_ BK119.out 1).trans rfl; have hfz9_0 := yab_ BK119.out 0; have hfz9_1 := yab_ BK119.out 1))
 go_loopg [4] k (fun kq v4 w' => ∃ (x4_1 : Int) (x120001_1 : List (S30)) (u120001 : Value), v4 = .int .i64 x4_1 ∧ Az_ (soriteslaw06_Of.l0 kq x4_1 a0_0 l0_1 a0_0 x120001_1 = some (r1, r2)) ∧ Az_ (kq ≤ k) ∧ Az_ (Kd.R k30 30 w' w.heap.size (fun k_ => k_ ≠ gb118 ∧ k_ ≠ gb119) u120001 x120001_1) ∧ Az_ (w'.heap[gb117]? = some (.cells #[.int .i64 a0_0, (.slice A0_1 l0_1.length c0_1)] 24 (0, 0))) ∧ Az_ (w'.heap[gb118]? = some (.cells #[.int .i64 0, (.slice none 0 0)] 30 (0, 0))) ∧ Az_ (w'.heap[gb119]? = some (.cells #[.int .i64 a0_0, u120001] 30 (0, 0))) ∧ Az_ (Below w.heap.size w w'))
 case atStart => exact ⟨(0), (([] : List (S30))), (.slice none 0 0), (by first | rfl | (simp; done) | (simp [*]; done)), H', ⟨Nat.le_refl _⟩, ⟨by first | exact Kd.R_nil _ _ _ _ _ | exact Kd.N_nil _ _ _ _ _ | exact Kd.V_nil _ _ _ _ _ | exact Kd.Q_nil _ _ _ _ _ | exact Kd.S_nil _ _ _ _ _⟩, ⟨by (with_reducible repeat (first | refine kN_ ?_ _ | refine kD_ ?_ | refine kA_ ?_ _)); refine blk_far ?_ NB117_119.out _; (with_reducible repeat (first | refine kN_ ?_ _ | refine kD_ ?_ | refine kA_ ?_ _)); refine blk_far ?_ NB117_119.out _; (with_reducible repeat (first | refine kN_ ?_ _ | refine kD_ ?_ | refine kA_ ?_ _)); exact BK117.out⟩, ⟨by (with_reducible repeat (first | refine kN_ ?_ _ | refine kD_ ?_ | refine kA_ ?_ _)); refine blk_far ?_ NB118_119.out _; (with_reducible repeat (first | refine kN_ ?_ _ | refine kD_ ?_ | refine kA_ ?_ _)); refine blk_far ?_ NB118_119.out _; (with_reducible repeat (first | refine kN_ ?_ _ | refine kD_ ?_ | refine kA_ ?_ _)); exact BK118.out⟩, ⟨by (with_reducible repeat (first | refine kN_ ?_ _ | refine kD_ ?_ | refine kA_ ?_ _)); refine blk_put (cs := #[.int .i64 a0_0, .slice none 0 0]) ?_ 1 _ rfl; (with_reducible repeat (first | refine kN_ ?_ _ | refine kD_ ?_ | refine kA_ ?_ _)); refine blk_put (cs := #[.int .i64 0, .slice none 0 0]) ?_ 0 _ rfl; (with_reducible repeat (first | refine kN_ ?_ _ | refine kD_ ?_ | refine kA_ ?_ _)); exact BK119.out⟩, ⟨by repeat (first | (with_reducible first | exact HB.out | apply bA_ | apply bN_ | apply bD_ | refine bS_ ?_ GE117.out | refine bS_ ?_ GE118.out | refine bS_ ?_ GE119.out) | exact HB.out)⟩⟩
 case round =>
  clear H'
  try clear c2
  try clear p2
  try clear c4
  try clear c7
  try clear c8
  try clear hcz5_0
  try clear hcz5_1
  try clear hcz9_0
  try clear hcz9_1
  try clear hfz5_0
  try clear hfz5_1
  try clear hfz9_0
  try clear hfz9_1
  obtain ⟨x4_1, x120001_1, u120001, rfl, HA, HK1, HO_120001, BK117, BK118, BK119, HB⟩ := hrel
  cases gk with
  | zero => exact absurd HA.out (by simp [soriteslaw06_Of.l0])
  | succ k1 =>
   have H := HA.out
   clear HA
   simp only [soriteslaw06_Of.l0] at H
   by_cases c10 : x4_1 < (l0_1.length : Int)
   ·rw [if_pos c10] at H
    have c10b0 : decide (x4_1 < (l0_1.length : Int)) = true := decide_eq_true c10
    clear c10
    by_cases c11 : 0 ≤ x4_1
    ·rw [if_pos c11] at H
     have c11b0 : decide (0 ≤ x4_1) = true := decide_eq_true c11
     clear c11
     replace H := Option.bind_eq_some_iff.mp H
     obtain ⟨⟨t121, t122⟩, A120, H⟩ := H
     replace H : (if x120001_1.length < 4398046511104 then (soriteslaw06_Of.l0 k1 (wrap64 (x4_1 + 1)) a0_0 l0_1 a0_0 (x120001_1 ++ [(⟨t121, t122⟩ : S30)])) else (none)) = some (r1, r2) := H
     have A12 := Az_.mk A120
     clear A120
     by_cases c13 : x120001_1.length < 4398046511104
     ·rw [if_pos c13] at H
      have LMc13 := Az_.mk c13
      clear c13
      obtain ⟨y125, hy125⟩ : ∃ y_ : List (S30), y_ = (x120001_1 ++ [(⟨t121, t122⟩ : S30)]) := ⟨_, rfl⟩
      replace H : (soriteslaw06_Of.l0 k1 (wrap64 (x4_1 + 1)) a0_0 l0_1 a0_0 y125) = some (r1, r2) := by first | (rw [hy125]; with_reducible exact H) | (have H2_ := (Option.bind_some _ _).symm.trans H; rw [hy125]; with_reducible exact H2_) | (have H2_ := (Option.bind_some _ _).symm.trans H; with_reducible exact H2_) | with_reducible exact H | (rw [hy125]; exact H) | exact H
      have Ny125 := Az_.mk hy125
      clear hy125
      have H' := Az_.mk H
      clear H
      have hnb14 := NB117_118.out
      have hnc14 := NB118_117.out
      have hnb15 := NB117_119.out
      have hnc15 := NB119_117.out
      have hcz16_0 : wr.cell? ⟨gb117, 0, none⟩ = some (.int .i64 a0_0) := (yaa_ BK117.out 0).trans rfl
      have hcz16_1 : wr.cell? ⟨gb117, 1, none⟩ = some (.slice A0_1 l0_1.length c0_1) := (yaa_ BK117.out 1).trans rfl
      have hfz16_0 := yab_ BK117.out 0
      have hfz16_1 := yab_ BK117.out 1
      try go_wp2
      have n0_ := Az_.mk (Kd.R_drew HO_120001.out)
      have n1_ := Az_.mk (kD_ BK117.out)
      have n2_ := Az_.mk (kD_ BK118.out)
      have n3_ := Az_.mk (kD_ BK119.out)
      have n4_ := Az_.mk (bD_ HB.out)
      clear HO_120001
      clear BK117
      clear BK118
      clear BK119
      clear HB
      have HO_120001 := n0_
      have BK117 := n1_
      have BK118 := n2_
      have BK119 := n3_
      have HB := n4_
      clear n0_ n1_ n2_ n3_ n4_
      have p120 : 0 ≤ (x4_1 : Int) := of_decide_eq_true (by first | (with_reducible assumption) | assumption)
      have q120 : x4_1 < (l0_1.length : Int) := of_decide_eq_true (by first | (with_reducible assumption) | assumption)
      obtain ⟨ad120, A120_1, c120_1, e120, hx120_0, hx120_1, hl120_1, hi120_1⟩ := at_T24 HR0_1.out x4_1 p120 q120
      have hw120_1 := hx120_1
      have hw120_0 := hx120_0
      cases e120
      replace hx120_0 := (HB.out.cell (World.block_lt_of_cell? w _ hx120_0)).trans hx120_0
      replace hx120_1 := (HB.out.cell (World.block_lt_of_cell? w _ hx120_1)).trans hx120_1
      have HR120_1 := Az_.mk hi120_1
      have HC120_1 := Az_.mk hl120_1
      clear hi120_1 hl120_1
      replace p120 := eq_true p120
      replace q120 := eq_true q120
      refine start_ (n := 12) (S := fun w' => w'.cell? ⟨gb119, 0, none⟩ = some (.int .i64 a0_0) ∧ w'.cell? ⟨gb119, 1, none⟩ = some (u120001) ∧ w'.cell? ⟨gb117, 0, none⟩ = some (.int .i64 a0_0) ∧ w'.cell? ⟨gb117, 1, none⟩ = some (.slice (some ad120) l0_1.length c0_1) ∧ w'.cell? (ad120.add ((x4_1).toNat * 2)) = some (.int .i64 ((rd_T24 l0_1 x4_1).f0)) ∧ w'.cell? ⟨(ad120.add ((x4_1).toNat * 2)).block, (ad120.add ((x4_1).toNat * 2)).off + 1, none⟩ = some (.slice A120_1 ((rd_T24 l0_1 x4_1).f1).length c120_1)) (ds := [11]) #[false, false, false, false, false, false, false, false, false, false, false, false] (by kernel_rfl) rfl rfl ⟨(yaa_ BK119.out 0).trans rfl, (yaa_ BK119.out 1).trans rfl, (yaa_ BK117.out 0).trans rfl, (yaa_ BK117.out 1).trans rfl, ((HB.out.cell (World.block_lt_of_cell? w _ hw120_0)).trans hw120_0), ((HB.out.cell (World.block_lt_of_cell? w _ hw120_1)).trans hw120_1)⟩ (fun hHeld => ?_); refine with_tabW soriteslaw06_Of.tab5 soriteslaw06_Of.bits5 (fun HT_ HW_ => ?_)
      generalize wr.drew = w17 at HO_120001 BK117 BK118 BK119 HB HR120_1 hx120_0 hx120_1 hHeld ⊢
      refine pure_ (i := 0) (N := some 15) (v := ?_) (a' := ?_) #[true, false, false, false, false, false, false, false, false, false, false, false] rfl rfl (any_of HT_.out (by kernel_rfl)) (fun _ _ _ h => h) (Or.inl ⟨by rfl, ?_⟩) ?_ ?_
      rotate_left
      ·intro w'
       go_simp
       with_reducible rfl
      rotate_left
      ·simp only [Act.put, sA_, sZ_, sS_, i64_w, i32_w]
       rfl
      refine pure_ (i := 2) (N := some 17) (v := ?_) (a' := ?_) #[true, false, true, false, false, false, false, false, false, false, false, false] rfl rfl (any_of HT_.out (by kernel_rfl)) (fun _ _ _ h => h) (Or.inl ⟨by rfl, ?_⟩) ?_ ?_
      rotate_left
      ·intro w'
       go_simp
       with_reducible rfl
      rotate_left
      ·simp only [Act.put, sA_, sZ_, sS_, i64_w, i32_w]
       rfl
      refine pure_ (i := 4) (N := some 19) (v := ?_) (a' := ?_) #[true, false, true, false, true, false, false, false, false, false, false, false] rfl rfl (any_of HT_.out (by kernel_rfl)) (fun _ _ _ h => h) (Or.inl ⟨by rfl, ?_⟩) ?_ ?_
      rotate_left
      ·intro w'
       go_simp
       with_reducible rfl
      rotate_left
      ·simp only [Act.put, sA_, sZ_, sS_, i64_w, i32_w]
       rfl
      refine take_ (i := 1) (N := some 16) (v := ?_) (a' := ?_) #[true, true, true, false, true, false, false, false, false, false, false, false] rfl rfl (yam_ HT_.out HW_.out (by kernel_rfl)) (fun _ _ _ h => h) (Or.inl ⟨by rfl, ?_⟩) hHeld ?_ ?_
      rotate_left
      ·rintro w' ⟨s0, s1, s2, s3, s4, s5⟩
       go_simp
       with_reducible rfl
      rotate_left
      ·simp only [Act.put, sA_, sZ_, sS_, i64_w, i32_w]
       rfl
      refine take_ (i := 3) (N := some 18) (v := ?_) (a' := ?_) #[true, true, true, true, true, false, false, false, false, false, false, false] rfl rfl (yam_ HT_.out HW_.out (by kernel_rfl)) (fun _ _ _ h => h) (Or.inl ⟨by rfl, ?_⟩) hHeld ?_ ?_
      rotate_left
      ·rintro w' ⟨s0, s1, s2, s3, s4, s5⟩
       go_simp
       with_reducible rfl
      rotate_left
      ·simp only [Act.put, sA_, sZ_, sS_, i64_w, i32_w]
       rfl
      refine pure_ (i := 5) (N := some 20) (v := ?_) (a' := ?_) #[true, true, true, true, true, true, false, false, false, false, false, false] rfl rfl (any_of HT_.out (by kernel_rfl)) (fun _ _ _ h => h) (Or.inl ⟨by rfl, ?_⟩) ?_ ?_
      rotate_left
      ·intro w'
       go_simp
       with_reducible rfl
      rotate_left
      ·simp only [Act.put, sA_, sZ_, sS_, i64_w, i32_w]
       rfl
      refine take_ (i := 6) (N := some 21) (v := ?_) (a' := ?_) #[true, true, true, true, true, true, true, false, false, false, false, false] rfl rfl (yam_ HT_.out HW_.out (by kernel_rfl)) (fun _ _ _ h => h) (Or.inl ⟨by rfl, ?_⟩) hHeld ?_ ?_
      rotate_left
      ·rintro w' ⟨s0, s1, s2, s3, s4, s5⟩
       go_simp
       with_reducible rfl
      rotate_left
      ·simp only [Act.put, sA_, sZ_, sS_, i64_w, i32_w]
       rfl
      refine one_ (i := 7) (N := some 22) #[true, true, true, true, true, true, true, true, false, false, false, false] rfl rfl (one_of HT_.out (by kernel_rfl)) (by decide) (fun K hK => ?_)
      refine goes_ Try.func22 (by kernel_rfl) rfl #[.agg #[.int .i64 ((rd_T24 l0_1 x4_1).f0), .slice A120_1 ((rd_T24 l0_1 x4_1).f1).length c120_1]] (by rfl) rfl rfl (by (try simp only [List.map_toArray, List.map_cons, List.map_nil]); first | done | rfl | (simp only [List.length_drop, List.length_take]; rfl)) ?_
      with_reducible refine (ih k1 (by have := HK1.out; omega) ((rd_T24 l0_1 x4_1).f0) _ _ ((rd_T24 l0_1 x4_1).f1) t121 t122 _ ?side1 ?side2 A12.out).mono ?_
      (case side1 => repeat (first | exact (Kd.C_below HR120_1.out HB.out) | (with_reducible refine Kd.C_alloc ?_ _) | (with_reducible refine Kd.C_drewN ?_ _) | (with_reducible refine Kd.C_drew ?_)))
      (case side2 => exact HC120_1.out)
      rintro e w18 ⟨v123, rfl, ho0, hb⟩
      refine ⟨_, rfl, ?_⟩
      have n0_ := Az_.mk (Kd.R_elder' (by (with_reducible repeat (first | apply Kd.R_alloc | apply Kd.R_drewN | apply Kd.R_drew)); exact HO_120001.out) (Kd.R_base ho0) hb)
      have n1_ := Az_.mk (Kd.R_lower (Kd.R_newB (Kd.R_newB (Kd.R_new' ho0 (Kd.R_lt (by (with_reducible repeat (first | apply Kd.R_alloc | apply Kd.R_drewN | apply Kd.R_drew)); exact HO_120001.out))) (g := gb118) (o := .cells #[.int .i64 0, .slice none 0 0] 30 (0, 0)) (by (with_reducible repeat (first | refine kN_ ?_ _ | refine kD_ ?_ | refine kA_ ?_ _)); exact BK118.out)) (g := gb119) (o := .cells #[.int .i64 a0_0, u120001] 30 (0, 0)) (by (with_reducible repeat (first | refine kN_ ?_ _ | refine kD_ ?_ | refine kA_ ?_ _)); exact BK119.out)) (bZ_ (by repeat (first | (with_reducible first | exact HB.out | apply bA_ | apply bN_ | apply bD_ | refine bS_ ?_ GE117.out | refine bS_ ?_ GE118.out | refine bS_ ?_ GE119.out) | exact HB.out))))
      have n2_ := Az_.mk (kB_ (g := gb117) (o := .cells #[.int .i64 a0_0, .slice (some ad120) l0_1.length c0_1] 24 (0, 0)) (by (with_reducible repeat (first | refine kN_ ?_ _ | refine kD_ ?_ | refine kA_ ?_ _)); exact BK117.out) hb)
      have n3_ := Az_.mk (kB_ (g := gb118) (o := .cells #[.int .i64 0, .slice none 0 0] 30 (0, 0)) (by (with_reducible repeat (first | refine kN_ ?_ _ | refine kD_ ?_ | refine kA_ ?_ _)); exact BK118.out) hb)
      have n4_ := Az_.mk (kB_ (g := gb119) (o := .cells #[.int .i64 a0_0, u120001] 30 (0, 0)) (by (with_reducible repeat (first | refine kN_ ?_ _ | refine kD_ ?_ | refine kA_ ?_ _)); exact BK119.out) hb)
      have n5_ := Az_.mk (bT_ (by repeat (first | (with_reducible first | exact HB.out | apply bA_ | apply bN_ | apply bD_ | refine bS_ ?_ GE117.out | refine bS_ ?_ GE118.out | refine bS_ ?_ GE119.out) | exact HB.out)) hb)
      clear HO_120001
      clear BK117
      clear BK118
      clear BK119
      clear HB
      have HO_120001 := n0_
      have HO124 := n1_
      have BK117 := n2_
      have BK118 := n3_
      have BK119 := n4_
      have HB := n5_
      clear n0_ n1_ n2_ n3_ n4_ n5_
      (try clear hb)
      (try clear hb2)
      (try clear hk)
      (try clear hi)
      (try clear ho0)
      obtain ⟨Ao20, co20, eo20⟩ := Kd.R_slice HO124.out
      (first | subst eo20 | (injection eo20 with f1_ f2_ f3_; have f4_ := f1_.symm; have f5_ := f3_.symm; clear f1_ f2_ f3_; subst f4_; subst f5_))
      refine hK.out _ _ ⟨(yaa_ BK119.out 0).trans rfl, (yaa_ BK119.out 1).trans rfl, (yaa_ BK117.out 0).trans rfl, (yaa_ BK117.out 1).trans rfl, ((HB.out.cell (World.block_lt_of_cell? w _ hw120_0)).trans hw120_0), ((HB.out.cell (World.block_lt_of_cell? w _ hw120_1)).trans hw120_1)⟩ (fun hHeld => ?_)
      clear hK K
      refine norm_ (a' := ?_) ?_ ?_
      rotate_left
      ·show Act.put _ (some 22) _ = _
       simp only [Act.put, sA_, sZ_, sS_, i64_w, i32_w]
       rfl
      refine one_ (i := 8) (N := some 23) #[true, true, true, true, true, true, true, true, true, false, false, false] rfl rfl (one_of HT_.out (by kernel_rfl)) (by decide) (fun K hK => ?_)
      refine value_ (w1 := ?_) (v := ?_) (by rfl) rfl ?_ ?_
      rotate_left 2
      ·go_simp
       constructor
       ·rfl
       ·rfl
      refine hK.out _ _ ⟨(yaa_ (kA_ BK119.out _) 0).trans rfl, (yaa_ (kA_ BK119.out _) 1).trans rfl, (yaa_ (kA_ BK117.out _) 0).trans rfl, (yaa_ (kA_ BK117.out _) 1).trans rfl, (World.cell?_alloc_lt _ _ _ (World.block_lt_of_cell? _ _ (((HB.out.cell (World.block_lt_of_cell? w _ hw120_0)).trans hw120_0)))).trans (((HB.out.cell (World.block_lt_of_cell? w _ hw120_0)).trans hw120_0)), (World.cell?_alloc_lt _ _ _ (World.block_lt_of_cell? _ _ (((HB.out.cell (World.block_lt_of_cell? w _ hw120_1)).trans hw120_1)))).trans (((HB.out.cell (World.block_lt_of_cell? w _ hw120_1)).trans hw120_1))⟩ (fun hHeld => ?_)
      clear hK K
      refine norm_ (a' := ?_) ?_ ?_
      rotate_left
      ·show Act.put _ (some 23) _ = _
       simp only [Act.put, sA_, sZ_, sS_, i64_w, i32_w]
       rfl
      refine one_ (i := 9) (N := some 24) #[true, true, true, true, true, true, true, true, true, true, false, false] rfl rfl (one_of HT_.out (by kernel_rfl)) (by decide) (fun K hK => ?_)
      refine Kd.R_append_step k30 (w0 := w) w.heap.size (by rfl) (.tmp 16) (.tmp 23) 28 30 (.agg #[(.int .i64 0), (.slice none 0 0)]) 32 rfl Try.underlying28 info30 rfl (by decide) (by omega) u120001 x120001_1 (⟨t121, t122⟩ : S30) [.int .i64 t121, .slice Ao20 t122.length co20] (fun k_ => k_ ≠ gb118 ∧ k_ ≠ gb119) (fun k_ => ((fun k_ => k_ ≠ gb118 ∧ k_ ≠ gb119)) k_ ∧ some k_ ≠ (u120001 : Value).ownBlock) rfl rfl ?aP (fun _ hk => hk) ?aF ?aO ?aB ?aS ?aL ?_
      (case aP => exact k30_mkM _ _ _ (⟨t121, t122⟩ : S30) (Kd.R_mono (HO124.out) (fun k_ hk => ⟨⟨hk.1.2, hk.2⟩, hk.1.1.2⟩)))
      (case aB => exact (by repeat (first | (with_reducible first | exact HB.out | apply bA_ | apply bN_ | apply bD_ | refine bS_ ?_ GE117.out | refine bS_ ?_ GE118.out | refine bS_ ?_ GE119.out) | exact HB.out)))
      (case aF => exact (fun k_ hk => ⟨Kd.freshB (g := gb118) (o := .cells #[.int .i64 0, .slice none 0 0] 30 (0, 0)) (by (with_reducible repeat (first | refine kN_ ?_ _ | refine kD_ ?_ | refine kA_ ?_ _)); exact BK118.out) k_ hk, Kd.freshB (g := gb119) (o := .cells #[.int .i64 a0_0, u120001] 30 (0, 0)) (by (with_reducible repeat (first | refine kN_ ?_ _ | refine kD_ ?_ | refine kA_ ?_ _)); exact BK119.out) k_ hk⟩))
      (case aO => exact (by (with_reducible repeat (first | apply Kd.R_alloc | apply Kd.R_drewN | apply Kd.R_drew)); exact Kd.R_mono HO_120001.out (fun _ hk => ⟨hk.1.1, hk.1.2⟩)))
      (case aS => exact (bZ_ (by repeat (first | (with_reducible first | exact HB.out | apply bA_ | apply bN_ | apply bD_ | refine bS_ ?_ GE117.out | refine bS_ ?_ GE118.out | refine bS_ ?_ GE119.out) | exact HB.out))))
      (case aL => have := LMc13.out; omega)
      intro v126 w19 ho hb hg hat
      rw [← Ny125.out] at ho
      have n0_ := Az_.mk (blk_grown (g := gb117) (o := .cells #[.int .i64 a0_0, .slice (some ad120) l0_1.length c0_1] 24 (0, 0)) (by (with_reducible repeat (first | refine kN_ ?_ _ | refine kD_ ?_ | refine kA_ ?_ _)); exact BK117.out) hg (Kd.R_ne HO_120001.out BK117.out (by decide)))
      have n1_ := Az_.mk (blk_grown (g := gb118) (o := .cells #[.int .i64 0, .slice none 0 0] 30 (0, 0)) (by (with_reducible repeat (first | refine kN_ ?_ _ | refine kD_ ?_ | refine kA_ ?_ _)); exact BK118.out) hg (Kd.R_away HO_120001.out (fun _ hk => hk.1.1)))
      have n2_ := Az_.mk (blk_grown (g := gb119) (o := .cells #[.int .i64 a0_0, u120001] 30 (0, 0)) (by (with_reducible repeat (first | refine kN_ ?_ _ | refine kD_ ?_ | refine kA_ ?_ _)); exact BK119.out) hg (Kd.R_away HO_120001.out (fun _ hk => hk.1.2)))
      have n3_ := Az_.mk (hb)
      have n4_ := Az_.mk (ho)
      clear BK117
      clear BK118
      clear BK119
      clear HB
      clear HO_120001
      clear HO124
      have BK117 := n0_
      have BK118 := n1_
      have BK119 := n2_
      have HB := n3_
      have HO127 := n4_
      clear n0_ n1_ n2_ n3_ n4_
      clear ho hb hg hat
      obtain ⟨Ao21, co21, eo21⟩ := Kd.R_slice HO127.out
      (first | subst eo21 | (injection eo21 with f1_ f2_ f3_; have f4_ := f1_.symm; have f5_ := f3_.symm; clear f1_ f2_ f3_; subst f4_; subst f5_))
      refine hK.out _ _ ⟨(yaa_ BK119.out 0).trans rfl, (yaa_ BK119.out 1).trans rfl, (yaa_ BK117.out 0).trans rfl, (yaa_ BK117.out 1).trans rfl, ((HB.out.cell (World.block_lt_of_cell? w _ hw120_0)).trans hw120_0), ((HB.out.cell (World.block_lt_of_cell? w _ hw120_1)).trans hw120_1)⟩ (fun hHeld => ?_)
      clear hK K
      refine norm_ (a' := ?_) ?_ ?_
      rotate_left
      ·show Act.put _ (some 24) _ = _
       simp only [Act.put, sA_, sZ_, sS_, i64_w, i32_w]
       rfl
      refine pure_ (i := 10) (N := some 25) (v := ?_) (a' := ?_) #[true, true, true, true, true, true, true, true, true, true, true, false] rfl rfl (any_of HT_.out (by kernel_rfl)) (fun _ _ _ h => h) (Or.inl ⟨by rfl, ?_⟩) ?_ ?_
      rotate_left
      ·intro w'
       go_simp
       with_reducible rfl
      rotate_left
      ·simp only [Act.put, sA_, sZ_, sS_, i64_w, i32_w]
       rfl
      refine last_ (i := 11) (N := none) #[true, true, true, true, true, true, true, true, true, true, true, true] rfl rfl (one_of HT_.out (by kernel_rfl)) (by decide) (fun K hK => ?_)
      have hs22 : w19.cell? ⟨gb119, 1, none⟩ = some (u120001) := (yaa_ BK119.out 1).trans rfl
      have hfs22 := yab_ BK119.out 1
      have hns22_0 := NB117_119.out
      have hns22_1 := NB118_119.out
      have hms22_0 := NB119_117.out
      have hms22_1 := NB119_118.out
      refine skip_ (w1 := ?_) (by rfl) rfl ?_ ?_
      rotate_left
      ·go_simp
       rfl
      refine hK.out _ _ ?_
      clear hK K
      refine done_ (done_of HT_.out (by kernel_rfl)) ?_
      try go_wp2
      go_roundg k1
      case measure => have := HK1.out; omega
      case rel => exact ⟨(wrap64 (x4_1 + 1)), (y125), (.slice Ao21 y125.length co21), (by first | rfl | (simp; done) | (simp [*]; done)), H', ⟨by have := HK1.out; omega⟩, ⟨by (with_reducible repeat (first | apply Kd.R_alloc | apply Kd.R_drewN | apply Kd.R_drew)); exact Kd.R_mono (Kd.R_far (p := ⟨gb119, 1, none⟩) (Kd.R_mono HO127.out (fun k_ hk => (⟨hk, hk.2⟩ : _ ∧ k_ ≠ gb119))) (fun _ hk => hk.2) (.slice Ao21 y125.length co21)) (fun _ hk => ⟨hk.1.1, hk.1.2⟩)⟩, ⟨by (with_reducible repeat (first | refine kN_ ?_ _ | refine kD_ ?_ | refine kA_ ?_ _)); refine blk_far ?_ NB117_119.out _; (with_reducible repeat (first | refine kN_ ?_ _ | refine kD_ ?_ | refine kA_ ?_ _)); exact BK117.out⟩, ⟨by (with_reducible repeat (first | refine kN_ ?_ _ | refine kD_ ?_ | refine kA_ ?_ _)); refine blk_far ?_ NB118_119.out _; (with_reducible repeat (first | refine kN_ ?_ _ | refine kD_ ?_ | refine kA_ ?_ _)); exact BK118.out⟩, ⟨by (with_reducible repeat (first | refine kN_ ?_ _ | refine kD_ ?_ | refine kA_ ?_ _)); refine blk_put (cs := #[.int .i64 a0_0, u120001]) ?_ 1 _ rfl; (with_reducible repeat (first | refine kN_ ?_ _ | refine kD_ ?_ | refine kA_ ?_ _)); exact BK119.out⟩, ⟨by repeat (first | (with_reducible first | exact HB.out | apply bA_ | apply bN_ | apply bD_ | refine bS_ ?_ GE117.out | refine bS_ ?_ GE118.out | refine bS_ ?_ GE119.out) | exact HB.out)⟩⟩
     ·rw [if_neg c13] at H
      exact absurd H (by simp)
    ·rw [if_neg c11] at H
     exact absurd H (by simp)
   ·rw [if_neg c10] at H
    have c10b0 : decide (x4_1 < (l0_1.length : Int)) = false := decide_eq_false c10
    clear c10
    simp only [Option.some.injEq, Prod.mk.injEq] at H
    obtain ⟨rfl, rfl⟩ := H
    have hnb23 := NB117_118.out
    have hnc23 := NB118_117.out
    have hnb24 := NB117_119.out
    have hnc24 := NB119_117.out
    have hcz25_0 : wr.cell? ⟨gb117, 0, none⟩ = some (.int .i64 a0_0) := (yaa_ BK117.out 0).trans rfl
    have hcz25_1 : wr.cell? ⟨gb117, 1, none⟩ = some (.slice A0_1 l0_1.length c0_1) := (yaa_ BK117.out 1).trans rfl
    have hfz25_0 := yab_ BK117.out 0
    have hfz25_1 := yab_ BK117.out 1
    have hnb26 := NB119_118.out
    have hnc26 := NB118_119.out
    have hcz27_0 : wr.cell? ⟨gb119, 0, none⟩ = some (.int .i64 a0_0) := (yaa_ BK119.out 0).trans rfl
    have hcz27_1 : wr.cell? ⟨gb119, 1, none⟩ = some (u120001) := (yaa_ BK119.out 1).trans rfl
    have hfz27_0 := yab_ BK119.out 0
    have hfz27_1 := yab_ BK119.out 1
    have hcz28_0 : wr.cell? ⟨gb118, 0, none⟩ = some (.int .i64 0) := (yaa_ BK118.out 0).trans rfl
    have hcz28_1 : wr.cell? ⟨gb118, 1, none⟩ = some (.slice none 0 0) := (yaa_ BK118.out 1).trans rfl
    have hfz28_0 := yab_ BK118.out 0
    have hfz28_1 := yab_ BK118.out 1
    obtain ⟨Ao29, co29, eo29⟩ := Kd.R_slice HO_120001.out
    subst eo29
    go_wp2
    refine bodyPost_ret (results_cell_row rfl _ _ gb118 30 #[.int .i64 a0_0, .slice Ao29 x120001_1.length co29] (0, 0) _ rfl (by (with_reducible repeat (first | refine kN_ ?_ _ | refine kD_ ?_ | refine kA_ ?_ _)); refine blk_put (cs := #[.int .i64 a0_0, .slice none 0 0]) ?_ 1 _ rfl; (with_reducible repeat (first | refine kN_ ?_ _ | refine kD_ ?_ | refine kA_ ?_ _)); refine blk_put (cs := #[.int .i64 0, .slice none 0 0]) ?_ 0 _ rfl; (with_reducible repeat (first | refine kN_ ?_ _ | refine kD_ ?_ | refine kA_ ?_ _)); exact BK118.out) Try.underlying30 rfl (by kernel_rfl)) rfl ?_
    exact ⟨_, by first | rfl | (simp [yae_, yad_] <;> rfl) | (simp [*, yae_, yad_] <;> rfl), by (with_reducible repeat (first | apply Kd.R_alloc | apply Kd.R_drewN | apply Kd.R_drew)); exact Kd.R_mono (Kd.R_far (p := ⟨gb118, 1, none⟩) (Kd.R_far (p := ⟨gb118, 0, none⟩) (Kd.R_mono HO_120001.out (fun k_ hk => (⟨hk, hk.1⟩ : _ ∧ k_ ≠ gb118))) (fun _ hk => hk.2) (.int .i64 a0_0)) (fun _ hk => hk.2) (.slice Ao29 x120001_1.length co29)) (fun _ hk => trivial), by repeat (first | (with_reducible first | exact HB.out | apply bA_ | apply bN_ | apply bD_ | refine bS_ ?_ GE117.out | refine bS_ ?_ GE118.out | refine bS_ ?_ GE119.out) | exact HB.out)⟩
end
section
mutual
def wt : S30 → Nat
 | ⟨_, l⟩ => 1 + wts l
def wts : List S30 → Nat
 | [] => 0
 | x :: r => wt x + wts r
end
mutual
def ok : S30 → Prop
 | ⟨f, l⟩ => -1000 ≤ f ∧ f ≤ 1000 ∧ l.length ≤ 20 ∧ oks l
def oks : List S30 → Prop
 | [] => True
 | x :: r => ok x ∧ oks r
end
theorem oks_mem {l : List S30} (h : oks l) : ∀ x ∈ l, ok x := by
 induction l with
 | nil => intro x hx; cases hx
 | cons y l ih =>
  intro x hx
  rcases List.mem_cons.1 hx with rfl | hx
  ·exact h.1
  ·exact ih h.2 x hx
theorem oks_of {l : List S30} (h : ∀ x ∈ l, ok x) : oks l := by
 induction l with
 | nil => trivial
 | cons y l ih => exact ⟨h y (by simp), ih (fun x hx => h x (by simp [hx]))⟩
theorem wts_snoc (l : List S30) (x : S30) : wts (l ++ [x]) = wts l + wt x := by
 induction l with
 | nil => simp [wts]
 | cons y l ih => simp only [List.cons_append, wts, ih]; omega
theorem wts_take (l : List S30) (k : Nat) (h : k < l.length) : wts (l.take (k + 1)) = wts (l.take k) + wt l[k] := by
 rw [List.take_succ_eq_append_getElem h, wts_snoc]
theorem S30.eta (t : S30) : (⟨t.f0, t.f1⟩ : S30) = t := by cases t; rfl
theorem w64 (n : Int) (h : -9223372036854775808 ≤ n ∧ n ≤ 9223372036854775807) : wrap64 n = n := by unfold wrap64; omega
theorem rd_at (l : List S30) (k : Nat) (h : k < l.length) : rd_T24 l (k : Int) = l[k] := by
 unfold rd_T24
 simp [List.getD, List.getElem?_eq_getElem h]
theorem Small_j0_f (k : Nat) (a1 a2 : Int) (b : Bool) (f : Int) (l : List S24) : soriteslaw06_Small.j0 (k + 1) a1 a2 b f l = if b = true then some (-1) else soriteslaw06_Small.l0 k (wrap64 (a1 - 1)) a2 0 f l := by rw [soriteslaw06_Small.j0]
theorem Small_spec : ∀ (D : Nat) (t : S24) (most deep : Int), deep = (D : Int) - 1 → D ≤ 1000 → 0 ≤ most → most ≤ 1000 →
  ∃ r, Ev (fun k => soriteslaw06_Small.f k t.f0 t.f1 most deep) r ∧ r ≤ most - 1 ∧ -1 ≤ r ∧ (0 ≤ r → ok t ∧ (wt t : Int) = most - r) := by
 intro D
 induction D with
 | zero =>
  intro t most deep hd _ h0 h1
  refine ⟨-1, Ev.step (f := fun k => soriteslaw06_Small.j0 k most deep true t.f0 t.f1) (fun k => ?_) (Ev.step (f := fun _ => some (-1)) (fun k => ?_) (Ev.now _)), by omega, by omega, fun h => by omega⟩
  ·rw [soriteslaw06_Small.f]
   rw [if_pos (by omega)]
  ·rw [Small_j0_f]
   simp
 | succ D ih =>
  intro t most deep hd hD h0 h1
  obtain ⟨f, l⟩ := t
  by_cases hb : f < -1000 ∨ f > 1000 ∨ (l.length : Int) > 20
  ·refine ⟨-1, Ev.step (f := fun k => soriteslaw06_Small.j0 k most deep true f l) (fun k => ?_) (Ev.step (f := fun _ => some (-1)) (fun k => ?_) (Ev.now _)), by omega, by omega, fun h => by omega⟩
   ·rw [soriteslaw06_Small.f]
    rw [if_neg (by omega)]
    by_cases h2 : f < -1000
    ·rw [if_pos h2]
    ·rw [if_neg h2]
     by_cases h3 : f > 1000
     ·rw [if_pos h3]
     ·rw [if_neg h3, show decide ((l.length : Int) > 20) = true from decide_eq_true (by omega)]
   ·rw [Small_j0_f]
    simp
  ·have hl : l.length ≤ 20 := by omega
   have hloop : ∀ (m i : Nat), l.length - i = m → i ≤ l.length → ∀ q : Int, q ≤ most - 1 → -1 ≤ q → (0 ≤ q → oks (l.take i) ∧ (1 + wts (l.take i) : Nat) = most - q) →
     ∃ r, Ev (fun k => soriteslaw06_Small.l0 k q deep (i : Int) f l) r ∧ r ≤ most - 1 ∧ -1 ≤ r ∧ (0 ≤ r → oks l ∧ ((1 + wts l : Nat) : Int) = most - r) := by
    intro m
    induction m with
    | zero =>
     intro i hi hle q hq1 hq2 hq3
     have : i = l.length := by omega
     subst this
     refine ⟨q, Ev.step (f := fun _ => some q) (fun k => ?_) (Ev.now q), hq1, hq2, fun h => ?_⟩
     ·rw [soriteslaw06_Small.l0, if_neg (by omega)]
     ·have := hq3 h
      rw [List.take_length] at this
      exact this
    | succ m ihm =>
     intro i hi hle q hq1 hq2 hq3
     by_cases hq : q ≥ 0
     ·have hlt : i < l.length := by omega
      obtain ⟨r1, he, hr1, hr2, hr3⟩ := ih l[i] q (wrap64 (deep - 1)) (by rw [w64 _ (by omega)]; omega) (by omega) hq (by omega)
      obtain ⟨r, he2, h3⟩ := ihm (i + 1) (by omega) (by omega) r1 (by omega) (by omega) (fun h => by
       have h4 := hr3 h
       have h5 := hq3 hq
       refine ⟨?_, ?_⟩
       ·rw [List.take_succ_eq_append_getElem hlt]
        refine oks_of (fun x hx => ?_)
        rcases List.mem_append.1 hx with hx | hx
        ·exact oks_mem h5.1 x hx
        ·rw [List.mem_singleton] at hx
         exact hx ▸ h4.1
       ·rw [wts_take l i hlt]
        have := h5.2
        have := h4.2
        omega)
      refine ⟨r, ?_, h3⟩
      refine Ev.step (f := fun k => (soriteslaw06_Small.f k l[i].f0 l[i].f1 q (wrap64 (deep - 1))).bind fun t => soriteslaw06_Small.l0 k t deep ((i + 1 : Nat) : Int) f l) (fun k => ?_) (Ev.bind he he2)
      rw [soriteslaw06_Small.l0, if_pos (by omega), if_pos hq, if_pos (by omega), rd_at l i hlt, show wrap64 ((i : Int) + 1) = ((i + 1 : Nat) : Int) from by rw [w64 _ (by omega)]; omega]
     ·refine ⟨q, Ev.step (f := fun _ => some q) (fun k => ?_) (Ev.now q), hq1, hq2, fun h => by omega⟩
      rw [soriteslaw06_Small.l0, if_pos (by omega), if_neg hq]
   obtain ⟨r, he, h1', h2', h3'⟩ := hloop l.length 0 rfl (by omega) (most - 1) (by omega) (by omega) (fun _ => ⟨trivial, by simp [wts]; omega⟩)
   refine ⟨r, ?_, h1', h2', fun h => ⟨⟨by show -1000 ≤ f; omega, by show f ≤ 1000; omega, hl, (h3' h).1⟩, (h3' h).2⟩⟩
   refine Ev.step (f := fun k => soriteslaw06_Small.j0 k most deep false f l) (fun k => ?_) (Ev.step (f := fun k => soriteslaw06_Small.l0 k (most - 1) deep 0 f l) (fun k => ?_) he)
   ·show soriteslaw06_Small.f (k + 1) f l most deep = _
    rw [soriteslaw06_Small.f, if_neg (by omega), if_neg (by omega), if_neg (by omega)]
    rw [show decide ((l.length : Int) > 20) = false from decide_eq_false (by omega)]
   ·rw [Small_j0_f, w64 _ (by omega)]
    simp
theorem Of_spec : ∀ t : S30, ok t → Ev (fun k => soriteslaw06_Of.f k t.f0 t.f1) (t.f0, t.f1) := by
 refine S30.ind ?_
 intro f l ih hok
 obtain ⟨_, _, hl, hks⟩ := hok
 have hloop : ∀ (m i : Nat), l.length - i = m → i ≤ l.length → Ev (fun k => soriteslaw06_Of.l0 k (i : Int) f l f (l.take i)) (f, l) := by
  intro m
  induction m with
  | zero =>
   intro i hi hle
   refine Ev.step (f := fun _ => some (f, l)) (fun k => ?_) (Ev.now _)
   rw [soriteslaw06_Of.l0, if_neg (by omega), List.take_of_length_le (by omega)]
  | succ m ihm =>
   intro i hi hle
   have hlt : i < l.length := by omega
   have he := ih l[i] (List.getElem_mem hlt) (oks_mem hks _ (List.getElem_mem hlt))
   refine Ev.step (f := fun k => (soriteslaw06_Of.f k l[i].f0 l[i].f1).bind fun t => if (l.take i).length < 4398046511104 then soriteslaw06_Of.l0 k ((i + 1 : Nat) : Int) f l f (l.take i ++ [(⟨t.1, t.2⟩ : S30)]) else none) (fun k => ?_) (Ev.bind he ?_)
   ·rw [soriteslaw06_Of.l0, if_pos (by omega), if_pos (by omega), rd_at l i hlt, show wrap64 ((i : Int) + 1) = ((i + 1 : Nat) : Int) from by rw [w64 _ (by omega)]; omega]
   ·simp only [List.length_take]
    simp only [if_pos (show min i l.length < 4398046511104 by omega)]
    have := ihm (i + 1) (by omega) (by omega)
    rw [List.take_succ_eq_append_getElem hlt] at this
    simp only [S30.eta]
    exact this
 refine Ev.step (f := fun k => soriteslaw06_Of.l0 k 0 f l f []) (fun k => ?_) ?_
 ·rw [soriteslaw06_Of.f]
 ·exact hloop l.length 0 rfl (by omega)
end
section
def cellsOf : Value → Array Value
 | .agg a => a
 | _ => #[]
section
variable {n : Nat} {xs : Nat → S30} {arg : Nat → Value} {w0 w : World} {v : Nat → Value} {d : Nat → Bool}
end
end
section
def layL : List (Option Tmp) → Nat → (Nat → Value) → Array Value → Array Value
 | [], _, _, T => T
 | some t :: r, i, v, T => layL r (i + 1) v (T.setIfInBounds t (v i))
 | none :: r, i, v, T => layL r (i + 1) v T
theorem layFirst_layL {ops : Array Oper} {m : Nat} {l : List (Option Tmp)} (h : (List.range m).map (dstOf ops) = l) (v : Nat → Value) (T : Array Value) : layFirst ops m v T = layL l 0 v T := by
 subst h
 have key : ∀ (n k : Nat) (T : Array Value), (List.range' k n).foldl (fun T i => match dstOf ops i with | some t => T.setIfInBounds t (v i) | none => T) T = layL ((List.range' k n).map (dstOf ops)) k v T := by
  intro n
  induction n with
  | zero => intro k T; rfl
  | succ n ih =>
   intro k T
   rw [List.range'_succ, List.foldl_cons, List.map_cons, ih]
   cases dstOf ops k <;> rfl
 unfold layFirst
 rw [List.range_eq_range']
 exact key m 0 T
theorem DetAll.fin {P : Program} {ops : Array Oper} {Q : Exit → Act → World → Prop} {base : Array Value} {ds : List Deferred} {w0 : World} {m i : Nat} {ps : List Told} (l : List (Option Tmp)) (hd : (List.range m).map (dstOf ops) = l) (hl : ps.length = m) (hi : i = m)
  (h : ∀ v w', Below w0.heap.size w0 w' → (∀ (j : Nat) (p : Told), ps[j]? = some p → p (v j) w') → wpAny P .any ops Q (ops.size - m) (firstDone ops.size m) { tmps := layL l 0 v base, defers := ds } w') : DetAll P ops Q base ds w0 m i ps :=
 DetAll.nil hl hi (fun v w' hb hv => by rw [layFirst_layL hd]; exact h v w' hb hv)
def RowTold {α : Type} (d : Kd α) (l : List α) : Told := fun u w => ∃ A c, u = .slice A l.length c ∧ l.length ≤ c ∧ d.C w A l.length l
theorem RowTold.grows {α : Type} (d : Kd α) (l : List α) : (RowTold d l).grows := fun u w w' h hb => by
 obtain ⟨A, c, h1, h2, h3⟩ := h
 exact ⟨A, c, h1, h2, Kd.C_below h3 hb⟩
def BlockTold (N : Nat) (f : Nat → Value) (cs : Array Value) (t : TypeId) : Told := fun u w => ∃ g, u = f g ∧ N ≤ g ∧ w.heap[g]? = some (.cells cs t (0, 0))
theorem BlockTold.grows (N : Nat) (f : Nat → Value) (cs : Array Value) (t : TypeId) : (BlockTold N f cs t).grows := fun u w w' h hb => by
 obtain ⟨g, h1, h2, h3⟩ := h
 exact ⟨g, h1, h2, kB_ h3 hb⟩
theorem wanted_of {o : Oper} {ops : Array Oper} {T : Array Value} {j : Nat} {t : Tmp} {b want : Bool} (hg : o.guard = some (j, want)) (hd : dstOf ops j = some t) (he : T.getD t undef = .bool b) : Region.wanted o (yielded ops T) = (b == want) := by
 have h1 : T[t]? = some (.bool b) := by
  rw [Array.getD_eq_getD_getElem?] at he
  cases hx : T[t]? with
  | none => rw [hx] at he; cases he
  | some x => rw [hx] at he; simp at he; rw [he]
 unfold Region.wanted
 rw [hg]
 simp only [yielded]
 rw [show ((ops[j]?).bind (·.dst)) = some t from hd]
 simp only [Option.bind_some, h1]
 cases b <;> cases want <;> rfl
theorem yac_ {o : Oper} (y : Nat → Option Bool) (hg : o.guard = none) : Region.wanted o y = true := by
 unfold Region.wanted
 rw [hg]
theorem wanted_yes {o : Oper} {ops : Array Oper} {T : Array Value} (j : Nat) (t : Tmp) (b : Bool) (hg : o.guard = some (j, b)) (hd : dstOf ops j = some t) (he : T.getD t undef = .bool b) : Region.wanted o (yielded ops T) = true := (wanted_of hg hd he).trans (by cases b <;> rfl)
theorem wanted_no {o : Oper} {ops : Array Oper} {T : Array Value} (j : Nat) (t : Tmp) (b : Bool) (hg : o.guard = some (j, !b)) (hd : dstOf ops j = some t) (he : T.getD t undef = .bool b) : ¬ Region.wanted o (yielded ops T) = true := by
 rw [wanted_of hg hd he]
 cases b <;> decide
def DetR (P : Program) (ops : Array Oper) (Q : Exit → Act → World → Prop) (base : Array Value) (ds : List Deferred) (w0 : World) (m i : Nat) (rs : List Told) : Prop := rs.length = i → DetAll P ops Q base ds w0 m i rs.reverse
theorem rev_at {rs : List Told} {i j : Nat} {p : Told} (hl : rs.length = i) (hj : j < i) (h : rs[i - 1 - j]? = some p) : rs.reverse[j]? = some p := by
 rw [List.getElem?_reverse (by omega), hl]
 exact h
theorem DetR.cons {P : Program} {ops : Array Oper} {Q : Exit → Act → World → Prop} {base : Array Value} {ds : List Deferred} {w0 : World} {m i : Nat} {rs : List Told} {o : Oper} (p : Told) (ho : ops[i]? = some o) (him : i < m) (hg : p.grows)
  (h : ∀ (T : Array Value) (w : World), Below w0.heap.size w0 w →
   (∀ j t p, j < i → (o.after.any fun e => Region.binds .any e && decide (e.on = j)) = true → dstOf ops j = some t → rs[i - 1 - j]? = some p → p (T.getD t undef) w) →
   (∀ t, ((List.range ops.size).all fun j => decide (dstOf ops j ≠ some t)) = true → T.getD t undef = base.getD t undef) →
   ∀ K : Act → World → Prop, (∀ u w2, Below w.heap.size w w2 → p u w2 → K ({ tmps := T, defers := ds : Act }.put o.dst u) w2) →
    if Region.wanted o (yielded ops T) = true then Oper.wp P o { tmps := T, defers := ds } w K Q else K ({ tmps := T, defers := ds : Act }.put o.dst undef) w)
  (hs : DetR P ops Q base ds w0 m (i + 1) (p :: rs)) : DetR P ops Q base ds w0 m i rs := fun hl => by
 refine DetAll.cons (p := p) ho (by rw [List.length_reverse, hl]) him hg (fun T w hb hd hB K hK => ?_) (by have := hs (by rw [List.length_cons, hl]); rwa [List.reverse_cons] at this)
 exact h T w hb (fun j t p hj h1 h2 h3 => hd j t p h1 h2 (rev_at hl hj h3)) hB K hK
theorem DetR.is {P : Program} {ops : Array Oper} {Q : Exit → Act → World → Prop} {base : Array Value} {ds : List Deferred} {w0 : World} {m i : Nat} {rs : List Told} {o : Oper} {u : Value} (ho : ops[i]? = some o) (him : i < m)
  (h : ∀ (T : Array Value) (w : World), Below w0.heap.size w0 w →
   (∀ j t p, j < i → (o.after.any fun e => Region.binds .any e && decide (e.on = j)) = true → dstOf ops j = some t → rs[i - 1 - j]? = some p → p (T.getD t undef) w) →
   (∀ t, ((List.range ops.size).all fun j => decide (dstOf ops j ≠ some t)) = true → T.getD t undef = base.getD t undef) →
   ∀ K : Act → World → Prop, (∀ w2, Below w.heap.size w w2 → K ({ tmps := T, defers := ds : Act }.put o.dst u) w2) →
    if Region.wanted o (yielded ops T) = true then Oper.wp P o { tmps := T, defers := ds } w K Q else K ({ tmps := T, defers := ds : Act }.put o.dst undef) w)
  (hs : DetR P ops Q base ds w0 m (i + 1) (Told.is u :: rs)) : DetR P ops Q base ds w0 m i rs :=
 DetR.cons (Told.is u) ho him (Told.is_grows u) (fun T w hb hd hB K hK => h T w hb hd hB K (fun w2 h2 => hK u w2 h2 rfl)) hs
theorem DetR.fin {P : Program} {ops : Array Oper} {Q : Exit → Act → World → Prop} {base : Array Value} {ds : List Deferred} {w0 : World} {m i : Nat} {rs : List Told} (l : List (Option Tmp)) (hd : (List.range m).map (dstOf ops) = l) (hi : i = m)
  (h : ∀ v w', Below w0.heap.size w0 w' → (∀ (j : Nat) (p : Told), j < m → rs[m - 1 - j]? = some p → p (v j) w') → wpAny P .any ops Q (ops.size - m) (firstDone ops.size m) { tmps := layL l 0 v base, defers := ds } w') : DetR P ops Q base ds w0 m i rs := fun hl =>
 DetAll.fin l hd (by rw [List.length_reverse]; omega) hi (fun v w' hb hv => h v w' hb (fun j p hj h1 => hv j p (rev_at (by omega) hj h1)))
theorem DetR.done {P : Program} {ops : Array Oper} {Q : Exit → Act → World → Prop} {base : Array Value} {ds : List Deferred} {w0 : World} {m i : Nat} {rs : List Told} (l : List (Option Tmp)) (hd : (List.range m).map (dstOf ops) = l) (hi : i = m)
  (hr : Region.ready .any ops (firstDone ops.size m) = []) (h : ∀ v w', Below w0.heap.size w0 w' → (∀ (j : Nat) (p : Told), j < m → rs[m - 1 - j]? = some p → p (v j) w') → Q .normal { tmps := layL l 0 v base, defers := ds } w') : DetR P ops Q base ds w0 m i rs :=
 DetR.fin l hd hi (fun v w' hb hv => wpAny_done hr (h v w' hb hv) _)
theorem region_detR {P : Program} {ops : Array Oper} {Q : Exit → Act → World → Prop} {id : Nat} {a : Act} {w : World} (m : Nat) (hm : P.follows .mixedOrders = true) (hr : regionOk ops a.tmps.size = true) (hw : waitsAll ops m = true) (h : DetR P ops Q a.tmps a.defers w m 0 []) : (Code.region id ops true).wp P Q a w :=
 region_det m hm hr hw (h rfl)
end
section
def Told.keeps (F : World → World → Prop) (p : Told) : Prop := ∀ u (w w' : World), p u w → F w w' → p u w'
abbrev BoxI := (Nat → Value) → (Nat → Bool) → World → Prop
section
variable {P : Program} {ops : Array Oper} {Q : Exit → Act → World → Prop}
def DetStepJ (P : Program) (ops : Array Oper) (Q : Exit → Act → World → Prop) (base : Array Value) (ds : List Deferred) (w0 : World) (F : World → World → Prop) (J : BoxI) (rs : List Told) (i : Nat) (o : Oper) (p : Told) : Prop :=
 ∀ (v : Nat → Value) (d : Nat → Bool) (T : Array Value) (w : World), Below w0.heap.size w0 w → J v d w → d i = false →
  (∀ j t p, j < i → (o.after.any fun e => Region.binds .any e && decide (e.on = j)) = true → dstOf ops j = some t → rs[i - 1 - j]? = some p → p (T.getD t undef) w) →
  (∀ j, (o.after.any fun e => Region.binds .any e && decide (e.on = j)) = true → d j = true ∧ ∀ t, dstOf ops j = some t → T.getD t undef = v j) →
  (∀ t, ((List.range ops.size).all fun j => decide (dstOf ops j ≠ some t)) = true → T.getD t undef = base.getD t undef) →
  ∀ K : Act → World → Prop, (∀ u w2, F w w2 → Below w0.heap.size w0 w2 → p u w2 → J (upd v i u) (upd d i true) w2 → K ({ tmps := T, defers := ds : Act }.put o.dst u) w2) →
   if Region.wanted o (yielded ops T) = true then Oper.wp P o { tmps := T, defers := ds } w K Q else K ({ tmps := T, defers := ds : Act }.put o.dst undef) w
def DetJ (P : Program) (ops : Array Oper) (Q : Exit → Act → World → Prop) (base : Array Value) (ds : List Deferred) (w0 : World) (F : World → World → Prop) (J : BoxI) (m i : Nat) (rs : List Told) : Prop :=
 rs.length = i → ∃ full : List Told, full.length = m ∧ full.take i = rs.reverse ∧
  (∀ j, i ≤ j → j < m → ∀ o p, ops[j]? = some o → full[j]? = some p → p.keeps F ∧ DetStepJ P ops Q base ds w0 F J (full.take j).reverse j o p) ∧
  ∀ v w', Below w0.heap.size w0 w' → (∀ (j : Nat) (p : Told), full[j]? = some p → p (v j) w') → (∀ d, (∀ i, i < m → d i = true) → J v d w' → Q .normal { tmps := layAll ops v base, defers := ds } w')
theorem DetJ.cons {base : Array Value} {ds : List Deferred} {w0 : World} {F : World → World → Prop} {J : BoxI} {m i : Nat} {rs : List Told} {o : Oper} (p : Told) (ho : ops[i]? = some o) (him : i < m) (hg : p.keeps F)
  (h : DetStepJ P ops Q base ds w0 F J rs i o p) (hs : DetJ P ops Q base ds w0 F J m (i + 1) (p :: rs)) : DetJ P ops Q base ds w0 F J m i rs := fun hl => by
 obtain ⟨full, h1, h2, h3, h4⟩ := hs (by rw [List.length_cons, hl])
 rw [List.reverse_cons] at h2
 have htk : full.take i = rs.reverse := by
  have h5 : full.take i = (full.take (i + 1)).take i := by rw [List.take_take, Nat.min_eq_left (by omega)]
  rw [h5, h2, List.take_append_of_le_length (by rw [List.length_reverse]; omega), List.take_of_length_le (by rw [List.length_reverse]; omega)]
 refine ⟨full, h1, htk, fun j hj hjm o' p' ho' hp' => ?_, h4⟩
 rcases Nat.lt_or_ge i j with hlt | hge
 ·exact h3 j hlt hjm o' p' ho' hp'
 ·have hji : j = i := by omega
  subst hji
  rw [ho] at ho'
  injection ho' with ho'
  subst ho'
  have h5 : full[j]? = some p := by
   have h6 : (full.take (j + 1))[j]? = (rs.reverse ++ [p])[j]? := by rw [h2]
   rw [List.getElem?_take_of_lt (by omega), List.getElem?_append_right (by rw [List.length_reverse]; omega)] at h6
   rw [h6]
   simp [hl]
  rw [h5] at hp'
  injection hp' with hp'
  subst hp'
  rw [htk, List.reverse_reverse]
  exact ⟨hg, h⟩
theorem region_detJ {id : Nat} {a : Act} {w : World} (F : World → World → Prop) (J : BoxI) (m : Nat) (hF : F w w.drew) (hJ : ∀ v, J v (fun _ => false) w.drew) (hm : P.follows .mixedOrders = true) (hr : regionOk ops a.tmps.size = true) (hms : ops.size = m) (h : DetJ P ops Q a.tmps a.defers w F J m 0 []) : (Code.region id ops true).wp P Q a w := by
 obtain ⟨full, h1, _, h3, h4⟩ := h rfl
 refine region_vals hm hr (fun v d w' => DetI w full v d w' ∧ J v d w') (fun v => ⟨⟨bN_ (Below.refl _ _) 1, fun j hj => by cases hj⟩, hJ v⟩) (fun i => ?_)
  (fun v d w' hall hI => h4 v w' hI.1.1 (fun j p hp => hI.1.2 j (hall j (by have := (List.getElem?_eq_some_iff.1 hp).1; omega)) p hp) d (fun i hi => hall i (by omega)) hI.2)
 intro o ho v d T w' hH hI hd hdep K hK
 have him : i < m := by have := (Array.getElem?_eq_some_iff.1 ho).1; omega
 have hp : full[i]? = some full[i] := List.getElem?_eq_getElem (by omega)
 obtain ⟨hg, hs⟩ := h3 i (Nat.zero_le _) him o _ ho hp
 have hlen : (full.take i).reverse.length = i := by rw [List.length_reverse, List.length_take]; omega
 have hd2 : ∀ j, (o.after.any fun e => Region.binds .any e && decide (e.on = j)) = true → d j = true := by
  intro j hj
  rw [Array.any_eq_true'] at hj
  obtain ⟨e, he, h5⟩ := hj
  rw [Bool.and_eq_true, decide_eq_true_eq] at h5
  rw [← h5.2]
  exact hdep e he h5.1
 refine hs v d T w' hI.1.1 hI.2 hd (fun j t p hji hj hjt hjp => ?_) (fun j hj => ⟨hd2 j hj, fun t ht => hH.done j t (hd2 j hj) ht⟩) (fun t ht => hH.base t (fun j _ e => ?_)) K (fun u w2 hF2 hb2 hu hJ2 => hK u w2 ⟨⟨hb2, fun j hj p hjp => ?_⟩, hJ2⟩)
 ·have hdj := hd2 j hj
  rw [hH.done j t hdj hjt]
  have h6 := rev_at hlen hji hjp
  rw [List.reverse_reverse, List.getElem?_take_of_lt hji] at h6
  exact hI.1.2 j hdj p h6
 ·rw [List.all_eq_true] at ht
  rcases Nat.lt_or_ge j ops.size with hlt | hge
  ·exact of_decide_eq_true (ht j (List.mem_range.2 hlt)) e
  ·unfold dstOf at e
   rw [Array.getElem?_eq_none hge] at e
   cases e
 ·by_cases hji : j = i
  ·subst hji
   rw [hp] at hjp
   injection hjp with hjp
   subst hjp
   rw [upd_same]
   exact hu
  ·rw [yag_ _ _ hji] at hj ⊢
   have hjm : j < m := by have := (List.getElem?_eq_some_iff.1 hjp).1; omega
   exact (h3 j (Nat.zero_le _) hjm _ p (Array.getElem?_eq_getElem (by omega)) hjp).1 _ _ _ (hI.1.2 j hj p hjp) hF2
theorem DetJ.told {base : Array Value} {ds : List Deferred} {w0 : World} {F : World → World → Prop} {J : BoxI} {m i : Nat} {rs : List Told} {o : Oper} (hF : ∀ w w', Below w.heap.size w w' → F w w') (S : List Nat)
  (hJ : ∀ i, i ∉ S → ∀ v d (w w' : World) u, J v d w → d i = false → Below w.heap.size w w' → J (upd v i u) (upd d i true) w') (p : Told) (ho : ops[i]? = some o) (him : i < m) (hS : i ∉ S) (hg : p.keeps F)
  (h : ∀ (T : Array Value) (w : World), Below w0.heap.size w0 w →
   (∀ j t p, j < i → (o.after.any fun e => Region.binds .any e && decide (e.on = j)) = true → dstOf ops j = some t → rs[i - 1 - j]? = some p → p (T.getD t undef) w) →
   (∀ t, ((List.range ops.size).all fun j => decide (dstOf ops j ≠ some t)) = true → T.getD t undef = base.getD t undef) →
   ∀ K : Act → World → Prop, (∀ u w2, Below w.heap.size w w2 → p u w2 → K ({ tmps := T, defers := ds : Act }.put o.dst u) w2) →
    if Region.wanted o (yielded ops T) = true then Oper.wp P o { tmps := T, defers := ds } w K Q else K ({ tmps := T, defers := ds : Act }.put o.dst undef) w)
  (hs : DetJ P ops Q base ds w0 F J m (i + 1) (p :: rs)) : DetJ P ops Q base ds w0 F J m i rs :=
 DetJ.cons p ho him hg (fun v d T w hb hj hd h1 h2 hB K hK => h T w hb h1 hB K (fun u w2 hb2 hu => hK u w2 (hF _ _ hb2) (hb.trans (hb2.mono hb.size)) hu (hJ i hS v d w w2 u hj hd hb2))) hs
theorem DetJ.is {base : Array Value} {ds : List Deferred} {w0 : World} {F : World → World → Prop} {J : BoxI} {m i : Nat} {rs : List Told} {o : Oper} {u : Value} (hF : ∀ w w', Below w.heap.size w w' → F w w') (S : List Nat)
  (hJ : ∀ i, i ∉ S → ∀ v d (w w' : World) u, J v d w → d i = false → Below w.heap.size w w' → J (upd v i u) (upd d i true) w') (ho : ops[i]? = some o) (him : i < m) (hS : i ∉ S)
  (h : ∀ (T : Array Value) (w : World), Below w0.heap.size w0 w →
   (∀ j t p, j < i → (o.after.any fun e => Region.binds .any e && decide (e.on = j)) = true → dstOf ops j = some t → rs[i - 1 - j]? = some p → p (T.getD t undef) w) →
   (∀ t, ((List.range ops.size).all fun j => decide (dstOf ops j ≠ some t)) = true → T.getD t undef = base.getD t undef) →
   ∀ K : Act → World → Prop, (∀ w2, Below w.heap.size w w2 → K ({ tmps := T, defers := ds : Act }.put o.dst u) w2) →
    if Region.wanted o (yielded ops T) = true then Oper.wp P o { tmps := T, defers := ds } w K Q else K ({ tmps := T, defers := ds : Act }.put o.dst undef) w)
  (hs : DetJ P ops Q base ds w0 F J m (i + 1) (Told.is u :: rs)) : DetJ P ops Q base ds w0 F J m i rs :=
 DetJ.told hF S hJ (Told.is u) ho him hS (fun _ _ _ h _ => h) (fun T w hb h1 hB K hK => h T w hb h1 hB K (fun w2 h2 => hK u w2 h2 rfl)) hs
theorem DetJ.done {base : Array Value} {ds : List Deferred} {w0 : World} {F : World → World → Prop} {J : BoxI} {m i : Nat} {rs : List Told} (l : List (Option Tmp)) (hd : (List.range m).map (dstOf ops) = l) (hms : ops.size = m) (hi : i = m)
  (h : ∀ v d w', Below w0.heap.size w0 w' → (∀ (j : Nat) (p : Told), j < m → rs[m - 1 - j]? = some p → p (v j) w') → (∀ i, i < m → d i = true) → J v d w' → Q .normal { tmps := layL l 0 v base, defers := ds } w') : DetJ P ops Q base ds w0 F J m i rs := fun hl => by
 subst hi
 refine ⟨rs.reverse, by rw [List.length_reverse]; exact hl, List.take_of_length_le (by rw [List.length_reverse]; omega), fun j hj hjm => by omega, fun v w' hb hv d hall hJ => ?_⟩
 have e : layAll ops v base = layL l 0 v base := by
  rw [← layFirst_layL hd]
  unfold layAll layFirst
  rw [hms]
  try rfl
 rw [e]
 exact h v d w' hb (fun j p hj h1 => hv j p (rev_at hl hj h1)) hall hJ
end
structure Bx where
 ia : Nat
 is : Nat
 ix : Nat
def Boxes (N : Nat) (z : Array Value) (t : TypeId) (l : List Bx) : BoxI := fun v d w =>
 (∀ b ∈ l, d b.ia = true → ∃ g, v b.ia = .pointer (some ⟨g, 0, none⟩) ∧ N ≤ g ∧ g < w.heap.size ∧ w.heap[g]? = some (.cells (if d b.is = true then cellsOf (v b.ix) else z) t (0, 0))) ∧
 (∀ b ∈ l, d b.is = true → d b.ia = true ∧ d b.ix = true) ∧
 (∀ b ∈ l, ∀ b' ∈ l, b.ia ≠ b'.ia → d b.ia = true → d b'.ia = true → v b.ia ≠ v b'.ia)
def Boxes.ids (l : List Bx) : List Nat := l.flatMap fun b => [b.ia, b.is]
theorem Boxes.start (N : Nat) (z : Array Value) (t : TypeId) (l : List Bx) (v : Nat → Value) (w : World) : Boxes N z t l v (fun _ => false) w := ⟨fun _ _ h => (by cases h), fun _ _ h => (by cases h), fun _ _ _ _ _ h => (by cases h)⟩
theorem Boxes.other {N : Nat} {z : Array Value} {t : TypeId} {l : List Bx} (i : Nat) (hi : i ∉ Boxes.ids l) (v : Nat → Value) (d : Nat → Bool) (w w' : World) (u : Value) (h : Boxes N z t l v d w) (hd : d i = false) (hb : Below w.heap.size w w') : Boxes N z t l (upd v i u) (upd d i true) w' := by
 obtain ⟨h1, h2, h3⟩ := h
 have ha : ∀ b ∈ l, b.ia ≠ i := fun b hbl e => hi (List.mem_flatMap.2 ⟨b, hbl, by simp [e]⟩)
 have hs : ∀ b ∈ l, b.is ≠ i := fun b hbl e => hi (List.mem_flatMap.2 ⟨b, hbl, by simp [e]⟩)
 refine ⟨fun b hbl hda => ?_, fun b hbl hds => ?_, fun b hbl b' hbl' hne hda hda' => ?_⟩
 ·rw [yag_ _ _ (ha b hbl)] at hda ⊢
  rw [yag_ _ _ (hs b hbl)]
  obtain ⟨g, e1, e2, e3, e4⟩ := h1 b hbl hda
  refine ⟨g, e1, e2, Nat.lt_of_lt_of_le e3 hb.size, ?_⟩
  have e5 := kB_ e4 hb
  by_cases hx : d b.is = true
  ·have hxx := (h2 b hbl hx).2
   have hxi : b.ix ≠ i := fun e => by rw [e, hd] at hxx; cases hxx
   rw [yag_ _ _ hxi]
   exact e5
  ·rw [if_neg hx] at e5 ⊢
   exact e5
 ·rw [yag_ _ _ (hs b hbl)] at hds
  rw [yag_ _ _ (ha b hbl)]
  have := h2 b hbl hds
  refine ⟨this.1, ?_⟩
  by_cases hxi : b.ix = i
  ·rw [hxi, upd_same]
  ·rw [yag_ _ _ hxi]; exact this.2
 ·rw [yag_ _ _ (ha b hbl)] at hda ⊢
  rw [yag_ _ _ (ha b' hbl')] at hda' ⊢
  exact h3 b hbl b' hbl' hne hda hda'
theorem Boxes.alloc {N : Nat} {z : Array Value} {t : TypeId} {l : List Bx} (i : Nat) (hs : ∀ b ∈ l, b.is ≠ i) (hx : ∀ b ∈ l, b.ix ≠ i) (v : Nat → Value) (d : Nat → Bool) (w : World) (h : Boxes N z t l v d w) (hd : d i = false) (hN : N ≤ w.heap.size) :
  Boxes N z t l (upd v i (.pointer (some ⟨w.heap.size, 0, none⟩))) (upd d i true) (w.alloc (.cells z t (0, 0))) := by
 obtain ⟨h1, h2, h3⟩ := h
 have hb : Below w.heap.size w (w.alloc (.cells z t (0, 0))) := bA_ (Below.refl _ _) _
 have old : ∀ b ∈ l, b.ia ≠ i → d b.ia = true → v b.ia ≠ .pointer (some ⟨w.heap.size, 0, none⟩) := fun b hbl _ hda e => by
  obtain ⟨g, e1, _, e3, _⟩ := h1 b hbl hda
  rw [e1] at e
  injection e with e
  injection e with e
  injection e with e
  omega
 refine ⟨fun b hbl hda => ?_, fun b hbl hds => ?_, fun b hbl b' hbl' hne hda hda' => ?_⟩
 ·rw [yag_ _ _ (hs b hbl), yag_ _ _ (hx b hbl)]
  by_cases hi : b.ia = i
  ·rw [hi, upd_same]
   refine ⟨_, rfl, hN, by have := blk_lt (heap_alloc_new w (.cells z t (0, 0))); exact this, ?_⟩
   have hn : ¬ d b.is = true := fun hc => by have := (h2 b hbl hc).1; rw [hi, hd] at this; cases this
   rw [if_neg hn]
   exact heap_alloc_new _ _
  ·rw [yag_ _ _ hi] at hda ⊢
   obtain ⟨g, e1, e2, e3, e4⟩ := h1 b hbl hda
   exact ⟨g, e1, e2, Nat.lt_of_lt_of_le e3 hb.size, kB_ e4 hb⟩
 ·rw [yag_ _ _ (hs b hbl)] at hds
  rw [yag_ _ _ (hx b hbl)]
  have := h2 b hbl hds
  refine ⟨?_, this.2⟩
  by_cases hi : b.ia = i
  ·rw [hi, upd_same]
  ·rw [yag_ _ _ hi]; exact this.1
 ·by_cases hi : b.ia = i
  ·have hi' : b'.ia ≠ i := fun e => hne (hi.trans e.symm)
   rw [yag_ _ _ hi'] at hda'
   rw [hi, upd_same, yag_ _ _ hi']
   exact fun e => old b' hbl' hi' hda' e.symm
  ·rw [yag_ _ _ hi] at hda
   rw [yag_ _ _ hi]
   by_cases hi' : b'.ia = i
   ·rw [hi', upd_same]
    exact old b hbl hi hda
   ·rw [yag_ _ _ hi'] at hda' ⊢
    exact h3 b hbl b' hbl' hne hda hda'
theorem Boxes.fill {N : Nat} {z : Array Value} {t : TypeId} {l : List Bx} (b : Bx) (hbl : b ∈ l) (hs : ∀ b' ∈ l, b'.is = b.is → b' = b) (ha : ∀ b' ∈ l, b'.ia ≠ b.is) (hx : ∀ b' ∈ l, b'.ix ≠ b.is) (hne : ∀ b' ∈ l, b' ≠ b → b'.ia ≠ b.ia) (v : Nat → Value) (d : Nat → Bool) (w w' : World) (u : Value) (g : Nat) (h : Boxes N z t l v d w)
  (hda : d b.ia = true) (hdx : d b.ix = true) (hva : v b.ia = .pointer (some ⟨g, 0, none⟩)) (hw : w'.heap[g]? = some (.cells (cellsOf (v b.ix)) t (0, 0))) (hother : ∀ k, k ≠ g → w'.heap[k]? = w.heap[k]?) (hsz : w'.heap.size = w.heap.size) :
  Boxes N z t l (upd v b.is u) (upd d b.is true) w' := by
 obtain ⟨h1, h2, h3⟩ := h
 refine ⟨fun c hcl hdc => ?_, fun c hcl hds => ?_, fun c hcl c' hcl' hne' hdc hdc' => ?_⟩
 ·rw [yag_ _ _ (ha c hcl)] at hdc ⊢
  rw [yag_ _ _ (hx c hcl)]
  obtain ⟨g', e1, e2, e3, e4⟩ := h1 c hcl hdc
  by_cases hcb : c = b
  ·subst hcb
   rw [upd_same, if_pos rfl]
   rw [e1] at hva
   injection hva with hva
   injection hva with hva
   injection hva with hva
   subst hva
   exact ⟨g', e1, e2, by omega, hw⟩
  ·have hgg : g' ≠ g := fun e => h3 c hcl b hbl (hne c hcl hcb) hdc hda (by rw [e1, hva, e])
   rw [yag_ _ _ (fun e => hcb (hs c hcl e))]
   exact ⟨g', e1, e2, by omega, (hother g' hgg).trans e4⟩
 ·rw [yag_ _ _ (ha c hcl), yag_ _ _ (hx c hcl)]
  by_cases hcb : c = b
  ·subst hcb
   exact ⟨hda, hdx⟩
  ·rw [yag_ _ _ (fun e => hcb (hs c hcl e))] at hds
   exact h2 c hcl hds
 ·rw [yag_ _ _ (ha c hcl)] at hdc ⊢
  rw [yag_ _ _ (ha c' hcl')] at hdc' ⊢
  exact h3 c hcl c' hcl' hne' hdc hdc'
theorem setCell_size (w : World) (a : Addr) (x : Value) : (w.setCell a x).heap.size = w.heap.size := by simp [World.setCell]
end
section
theorem setCell5_far {w : World} {g : Nat} {i0 i1 i2 i3 i4 : Nat} {x0 x1 x2 x3 x4 : Value} (k : Nat) (h : k ≠ g) : (((((w.setCell ⟨g, i0, none⟩ x0).setCell ⟨g, i1, none⟩ x1).setCell ⟨g, i2, none⟩ x2).setCell ⟨g, i3, none⟩ x3).setCell ⟨g, i4, none⟩ x4).heap[k]? = w.heap[k]? := (Below.heap_setCell _ _ _ k h).trans ((Below.heap_setCell _ _ _ k h).trans ((Below.heap_setCell _ _ _ k h).trans ((Below.heap_setCell _ _ _ k h).trans (Below.heap_setCell _ _ _ k h))))
set_option maxHeartbeats 4000000 in
set_option maxRecDepth 100000 in
theorem OrderRules_r6 {id : Nat} {a : Act} {w : World} {Q : Exit → Act → World → Prop} {g0 cp : Nat} {xb : Bool} {xi xj : Int} {xA xB : Option Addr} {xn xc xm xd : Nat} {yb : Bool} {yi yj : Int} {yA yB : Option Addr} {yn yc ym yd : Nat} {zb : Bool} {zi zj : Int} {zA zB : Option Addr} {zn zc zm zd : Nat}
  (hr : regionOk #[{ dst := some 30, op := Op.move (Operand.tmp 5), type := 68, pos := "law.go:95", after := #[], guard := none }, { dst := some 31, op := Op.indexAddr 68 (Operand.tmp 30) (Operand.const (Value.int IntKind.i64 0)), type := 0, pos := "law.go:95", after := #[{ on := 0, ground := Ground.data }], guard := none }, { dst := some 32, op := Op.load 78 (Operand.tmp 31), type := 78, pos := "law.go:95", after := #[{ on := 1, ground := Ground.data }], guard := none }, { dst := some 33, op := Op.move (Operand.tmp 5), type := 68, pos := "law.go:95", after := #[{ on := 12, ground := Ground.gcOnly Departure.lateStores }], guard := none }, { dst := some 34, op := Op.indexAddr 68 (Operand.tmp 33) (Operand.const (Value.int IntKind.i64 1)), type := 0, pos := "law.go:95", after := #[{ on := 3, ground := Ground.data }, { on := 12, ground := Ground.gcOnly Departure.lateStores }], guard := none }, { dst := some 35, op := Op.load 78 (Operand.tmp 34), type := 78, pos := "law.go:95", after := #[{ on := 4, ground := Ground.data }, { on := 12, ground := Ground.gcOnly Departure.lateStores }], guard := none }, { dst := some 36, op := Op.move (Operand.tmp 5), type := 68, pos := "law.go:95", after := #[{ on := 13, ground := Ground.gcOnly Departure.lateStores }], guard := none }, { dst := some 37, op := Op.indexAddr 68 (Operand.tmp 36) (Operand.const (Value.int IntKind.i64 2)), type := 0, pos := "law.go:95", after := #[{ on := 6, ground := Ground.data }, { on := 13, ground := Ground.gcOnly Departure.lateStores }], guard := none }, { dst := some 38, op := Op.load 78 (Operand.tmp 37), type := 78, pos := "law.go:95", after := #[{ on := 7, ground := Ground.data }, { on := 13, ground := Ground.gcOnly Departure.lateStores }], guard := none }, { dst := some 6, op := Op.alloc 78, type := 0, pos := "law.go:95", after := #[], guard := none }, { dst := some 7, op := Op.alloc 78, type := 0, pos := "law.go:95", after := #[], guard := none }, { dst := some 8, op := Op.alloc 78, type := 0, pos := "law.go:95", after := #[], guard := none }, { dst := none, op := Op.store 78 (Operand.tmp 6) (Operand.tmp 32), type := 0, pos := "law.go:95", after := #[{ on := 9, ground := Ground.data }, { on := 2, ground := Ground.data }, { on := 0, ground := Ground.phase }, { on := 1, ground := Ground.phase }, { on := 2, ground := Ground.phase }, { on := 3, ground := Ground.textOnly Departure.lateStores }, { on := 4, ground := Ground.textOnly Departure.lateStores }, { on := 5, ground := Ground.textOnly Departure.lateStores }, { on := 6, ground := Ground.textOnly Departure.lateStores }, { on := 7, ground := Ground.textOnly Departure.lateStores }, { on := 8, ground := Ground.textOnly Departure.lateStores }, { on := 9, ground := Ground.phase }, { on := 10, ground := Ground.phase }, { on := 11, ground := Ground.phase }], guard := none }, { dst := none, op := Op.store 78 (Operand.tmp 7) (Operand.tmp 35), type := 0, pos := "law.go:95", after := #[{ on := 10, ground := Ground.data }, { on := 5, ground := Ground.data }, { on := 12, ground := Ground.chain }, { on := 0, ground := Ground.phase }, { on := 1, ground := Ground.phase }, { on := 2, ground := Ground.phase }, { on := 3, ground := Ground.phase }, { on := 4, ground := Ground.phase }, { on := 5, ground := Ground.phase }, { on := 6, ground := Ground.textOnly Departure.lateStores }, { on := 7, ground := Ground.textOnly Departure.lateStores }, { on := 8, ground := Ground.textOnly Departure.lateStores }, { on := 9, ground := Ground.phase }, { on := 10, ground := Ground.phase }, { on := 11, ground := Ground.phase }, { on := 12, ground := Ground.phase }], guard := none }, { dst := none, op := Op.store 78 (Operand.tmp 8) (Operand.tmp 38), type := 0, pos := "law.go:95", after := #[{ on := 11, ground := Ground.data }, { on := 8, ground := Ground.data }, { on := 13, ground := Ground.chain }, { on := 0, ground := Ground.phase }, { on := 1, ground := Ground.phase }, { on := 2, ground := Ground.phase }, { on := 3, ground := Ground.phase }, { on := 4, ground := Ground.phase }, { on := 5, ground := Ground.phase }, { on := 6, ground := Ground.phase }, { on := 7, ground := Ground.phase }, { on := 8, ground := Ground.phase }, { on := 9, ground := Ground.phase }, { on := 10, ground := Ground.phase }, { on := 11, ground := Ground.phase }, { on := 12, ground := Ground.phase }, { on := 13, ground := Ground.phase }], guard := none }] a.tmps.size = true)
  (hT5 : a.tmps.getD 5 undef = .slice (some ⟨g0, 0, none⟩) 3 cp)
  (hcp : 3 ≤ cp)
  (hx0 : w.cell? ⟨g0, 0, none⟩ = some (.bool xb))
  (hx1 : w.cell? ⟨g0, 1, none⟩ = some (.int .i64 xi))
  (hx2 : w.cell? ⟨g0, 2, none⟩ = some (.slice xA xn xc))
  (hx3 : w.cell? ⟨g0, 3, none⟩ = some (.int .i64 xj))
  (hx4 : w.cell? ⟨g0, 4, none⟩ = some (.slice xB xm xd))
  (hy0 : w.cell? ⟨g0, 5, none⟩ = some (.bool yb))
  (hy1 : w.cell? ⟨g0, 6, none⟩ = some (.int .i64 yi))
  (hy2 : w.cell? ⟨g0, 7, none⟩ = some (.slice yA yn yc))
  (hy3 : w.cell? ⟨g0, 8, none⟩ = some (.int .i64 yj))
  (hy4 : w.cell? ⟨g0, 9, none⟩ = some (.slice yB ym yd))
  (hz0 : w.cell? ⟨g0, 10, none⟩ = some (.bool zb))
  (hz1 : w.cell? ⟨g0, 11, none⟩ = some (.int .i64 zi))
  (hz2 : w.cell? ⟨g0, 12, none⟩ = some (.slice zA zn zc))
  (hz3 : w.cell? ⟨g0, 13, none⟩ = some (.int .i64 zj))
  (hz4 : w.cell? ⟨g0, 14, none⟩ = some (.slice zB zm zd))
  (hQ : ∀ v w' ga gb gd, v 9 = .pointer (some ⟨ga, 0, none⟩) → v 10 = .pointer (some ⟨gb, 0, none⟩) → v 11 = .pointer (some ⟨gd, 0, none⟩) → w.heap.size ≤ ga → w.heap.size ≤ gb → w.heap.size ≤ gd → ga ≠ gb → ga ≠ gd → gb ≠ gd → w'.heap[ga]? = some (.cells #[.bool xb, .int .i64 xi, .slice xA xn xc, .int .i64 xj, .slice xB xm xd] 78 (0, 0)) → w'.heap[gb]? = some (.cells #[.bool yb, .int .i64 yi, .slice yA yn yc, .int .i64 yj, .slice yB ym yd] 78 (0, 0)) → w'.heap[gd]? = some (.cells #[.bool zb, .int .i64 zi, .slice zA zn zc, .int .i64 zj, .slice zB zm zd] 78 (0, 0)) → Below w.heap.size w w' → Q .normal { tmps := layL [some 30, some 31, some 32, some 33, some 34, some 35, some 36, some 37, some 38, some 6, some 7, some 8, none, none, none] 0 v a.tmps, defers := a.defers } w') :
  (Code.region id #[{ dst := some 30, op := Op.move (Operand.tmp 5), type := 68, pos := "law.go:95", after := #[], guard := none }, { dst := some 31, op := Op.indexAddr 68 (Operand.tmp 30) (Operand.const (Value.int IntKind.i64 0)), type := 0, pos := "law.go:95", after := #[{ on := 0, ground := Ground.data }], guard := none }, { dst := some 32, op := Op.load 78 (Operand.tmp 31), type := 78, pos := "law.go:95", after := #[{ on := 1, ground := Ground.data }], guard := none }, { dst := some 33, op := Op.move (Operand.tmp 5), type := 68, pos := "law.go:95", after := #[{ on := 12, ground := Ground.gcOnly Departure.lateStores }], guard := none }, { dst := some 34, op := Op.indexAddr 68 (Operand.tmp 33) (Operand.const (Value.int IntKind.i64 1)), type := 0, pos := "law.go:95", after := #[{ on := 3, ground := Ground.data }, { on := 12, ground := Ground.gcOnly Departure.lateStores }], guard := none }, { dst := some 35, op := Op.load 78 (Operand.tmp 34), type := 78, pos := "law.go:95", after := #[{ on := 4, ground := Ground.data }, { on := 12, ground := Ground.gcOnly Departure.lateStores }], guard := none }, { dst := some 36, op := Op.move (Operand.tmp 5), type := 68, pos := "law.go:95", after := #[{ on := 13, ground := Ground.gcOnly Departure.lateStores }], guard := none }, { dst := some 37, op := Op.indexAddr 68 (Operand.tmp 36) (Operand.const (Value.int IntKind.i64 2)), type := 0, pos := "law.go:95", after := #[{ on := 6, ground := Ground.data }, { on := 13, ground := Ground.gcOnly Departure.lateStores }], guard := none }, { dst := some 38, op := Op.load 78 (Operand.tmp 37), type := 78, pos := "law.go:95", after := #[{ on := 7, ground := Ground.data }, { on := 13, ground := Ground.gcOnly Departure.lateStores }], guard := none }, { dst := some 6, op := Op.alloc 78, type := 0, pos := "law.go:95", after := #[], guard := none }, { dst := some 7, op := Op.alloc 78, type := 0, pos := "law.go:95", after := #[], guard := none }, { dst := some 8, op := Op.alloc 78, type := 0, pos := "law.go:95", after := #[], guard := none }, { dst := none, op := Op.store 78 (Operand.tmp 6) (Operand.tmp 32), type := 0, pos := "law.go:95", after := #[{ on := 9, ground := Ground.data }, { on := 2, ground := Ground.data }, { on := 0, ground := Ground.phase }, { on := 1, ground := Ground.phase }, { on := 2, ground := Ground.phase }, { on := 3, ground := Ground.textOnly Departure.lateStores }, { on := 4, ground := Ground.textOnly Departure.lateStores }, { on := 5, ground := Ground.textOnly Departure.lateStores }, { on := 6, ground := Ground.textOnly Departure.lateStores }, { on := 7, ground := Ground.textOnly Departure.lateStores }, { on := 8, ground := Ground.textOnly Departure.lateStores }, { on := 9, ground := Ground.phase }, { on := 10, ground := Ground.phase }, { on := 11, ground := Ground.phase }], guard := none }, { dst := none, op := Op.store 78 (Operand.tmp 7) (Operand.tmp 35), type := 0, pos := "law.go:95", after := #[{ on := 10, ground := Ground.data }, { on := 5, ground := Ground.data }, { on := 12, ground := Ground.chain }, { on := 0, ground := Ground.phase }, { on := 1, ground := Ground.phase }, { on := 2, ground := Ground.phase }, { on := 3, ground := Ground.phase }, { on := 4, ground := Ground.phase }, { on := 5, ground := Ground.phase }, { on := 6, ground := Ground.textOnly Departure.lateStores }, { on := 7, ground := Ground.textOnly Departure.lateStores }, { on := 8, ground := Ground.textOnly Departure.lateStores }, { on := 9, ground := Ground.phase }, { on := 10, ground := Ground.phase }, { on := 11, ground := Ground.phase }, { on := 12, ground := Ground.phase }], guard := none }, { dst := none, op := Op.store 78 (Operand.tmp 8) (Operand.tmp 38), type := 0, pos := "law.go:95", after := #[{ on := 11, ground := Ground.data }, { on := 8, ground := Ground.data }, { on := 13, ground := Ground.chain }, { on := 0, ground := Ground.phase }, { on := 1, ground := Ground.phase }, { on := 2, ground := Ground.phase }, { on := 3, ground := Ground.phase }, { on := 4, ground := Ground.phase }, { on := 5, ground := Ground.phase }, { on := 6, ground := Ground.phase }, { on := 7, ground := Ground.phase }, { on := 8, ground := Ground.phase }, { on := 9, ground := Ground.phase }, { on := 10, ground := Ground.phase }, { on := 11, ground := Ground.phase }, { on := 12, ground := Ground.phase }, { on := 13, ground := Ground.phase }], guard := none }] true).wp Try.prog Q a w := by
 have hmx : Try.prog.follows .mixedOrders = true := by kernel_rfl
 have hJo : ∀ i, i ∉ [9, 12, 10, 13, 11, 14] → ∀ v d (w1 w2 : World) u, (Boxes w.heap.size #[.bool false, .int .i64 0, .slice none 0 0, .int .i64 0, .slice none 0 0] 78 [⟨9, 12, 2⟩, ⟨10, 13, 5⟩, ⟨11, 14, 8⟩]) v d w1 → d i = false → Below w1.heap.size w1 w2 → (Boxes w.heap.size #[.bool false, .int .i64 0, .slice none 0 0, .int .i64 0, .slice none 0 0] 78 [⟨9, 12, 2⟩, ⟨10, 13, 5⟩, ⟨11, 14, 8⟩]) (upd v i u) (upd d i true) w2 := fun i hi v d w1 w2 u h hd hb => Boxes.other i (show i ∉ Boxes.ids [⟨9, 12, 2⟩, ⟨10, 13, 5⟩, ⟨11, 14, 8⟩] from hi) v d w1 w2 u h hd hb
 refine region_detJ (fun _ _ => True) (Boxes w.heap.size #[.bool false, .int .i64 0, .slice none 0 0, .int .i64 0, .slice none 0 0] 78 [⟨9, 12, 2⟩, ⟨10, 13, 5⟩, ⟨11, 14, 8⟩]) 15 (trivial) (fun v => Boxes.start _ _ _ _ v _) hmx hr rfl ?_
 refine DetJ.is (o := { dst := some 30, op := Op.move (Operand.tmp 5), type := 68, pos := "law.go:95", after := #[], guard := none }) (u := ?ux1) (fun _ _ _ => trivial) [9, 12, 10, 13, 11, 14] hJo rfl (by decide) (by decide) (fun T w' hb hd hB K hK => ?sx1) ?rx1
 case sx1 =>
  have e5 := (hB 5 (by kernel_rfl)).trans hT5
  rw [if_pos (yac_ _ rfl)]
  clear hd hB
  go_simp
  exact hK _ (Below.refl _ _)
 refine DetJ.is (o := { dst := some 31, op := Op.indexAddr 68 (Operand.tmp 30) (Operand.const (Value.int IntKind.i64 0)), type := 0, pos := "law.go:95", after := #[{ on := 0, ground := Ground.data }], guard := none }) (u := .pointer (some ⟨g0, 0, none⟩)) (fun _ _ _ => trivial) [9, 12, 10, 13, 11, 14] hJo rfl (by decide) (by decide) (fun T w' hb hd hB K hK => ?sx2) ?rx2
 case sx2 =>
  have e30 := hd 0 30 _ (by decide) (by kernel_rfl) rfl rfl
  replace e30 : T.getD 30 undef = _ := e30
  rw [if_pos (yac_ _ rfl)]
  clear hd hB
  go_simp
  exact hK _ (Below.refl _ _)
 refine DetJ.is (o := { dst := some 32, op := Op.load 78 (Operand.tmp 31), type := 78, pos := "law.go:95", after := #[{ on := 1, ground := Ground.data }], guard := none }) (u := .agg #[.bool xb, .int .i64 xi, .slice xA xn xc, .int .i64 xj, .slice xB xm xd]) (fun _ _ _ => trivial) [9, 12, 10, 13, 11, 14] hJo rfl (by decide) (by decide) (fun T w' hb hd hB K hK => ?sx3) ?rx3
 case sx3 =>
  have e31 := hd 1 31 _ (by decide) (by kernel_rfl) rfl rfl
  replace e31 : T.getD 31 undef = _ := e31
  rw [if_pos (yac_ _ rfl)]
  have r0 := yaf_ hb hx0
  have r1 := yaf_ hb hx1
  have r2 := yaf_ hb hx2
  have r3 := yaf_ hb hx3
  have r4 := yaf_ hb hx4
  clear hd hB
  go_simp
  exact hK _ (Below.refl _ _)
 refine DetJ.is (o := { dst := some 33, op := Op.move (Operand.tmp 5), type := 68, pos := "law.go:95", after := #[{ on := 12, ground := Ground.gcOnly Departure.lateStores }], guard := none }) (u := ?ux4) (fun _ _ _ => trivial) [9, 12, 10, 13, 11, 14] hJo rfl (by decide) (by decide) (fun T w' hb hd hB K hK => ?sx4) ?rx4
 case sx4 =>
  have e5 := (hB 5 (by kernel_rfl)).trans hT5
  rw [if_pos (yac_ _ rfl)]
  clear hd hB
  go_simp
  exact hK _ (Below.refl _ _)
 refine DetJ.is (o := { dst := some 34, op := Op.indexAddr 68 (Operand.tmp 33) (Operand.const (Value.int IntKind.i64 1)), type := 0, pos := "law.go:95", after := #[{ on := 3, ground := Ground.data }, { on := 12, ground := Ground.gcOnly Departure.lateStores }], guard := none }) (u := .pointer (some ⟨g0, 5, none⟩)) (fun _ _ _ => trivial) [9, 12, 10, 13, 11, 14] hJo rfl (by decide) (by decide) (fun T w' hb hd hB K hK => ?sx5) ?rx5
 case sx5 =>
  have e33 := hd 3 33 _ (by decide) (by kernel_rfl) rfl rfl
  replace e33 : T.getD 33 undef = _ := e33
  rw [if_pos (yac_ _ rfl)]
  clear hd hB
  go_simp
  exact hK _ (Below.refl _ _)
 refine DetJ.is (o := { dst := some 35, op := Op.load 78 (Operand.tmp 34), type := 78, pos := "law.go:95", after := #[{ on := 4, ground := Ground.data }, { on := 12, ground := Ground.gcOnly Departure.lateStores }], guard := none }) (u := .agg #[.bool yb, .int .i64 yi, .slice yA yn yc, .int .i64 yj, .slice yB ym yd]) (fun _ _ _ => trivial) [9, 12, 10, 13, 11, 14] hJo rfl (by decide) (by decide) (fun T w' hb hd hB K hK => ?sx6) ?rx6
 case sx6 =>
  have e34 := hd 4 34 _ (by decide) (by kernel_rfl) rfl rfl
  replace e34 : T.getD 34 undef = _ := e34
  rw [if_pos (yac_ _ rfl)]
  have r0 := yaf_ hb hy0
  have r1 := yaf_ hb hy1
  have r2 := yaf_ hb hy2
  have r3 := yaf_ hb hy3
  have r4 := yaf_ hb hy4
  clear hd hB
  go_simp
  exact hK _ (Below.refl _ _)
 refine DetJ.is (o := { dst := some 36, op := Op.move (Operand.tmp 5), type := 68, pos := "law.go:95", after := #[{ on := 13, ground := Ground.gcOnly Departure.lateStores }], guard := none }) (u := ?ux7) (fun _ _ _ => trivial) [9, 12, 10, 13, 11, 14] hJo rfl (by decide) (by decide) (fun T w' hb hd hB K hK => ?sx7) ?rx7
 case sx7 =>
  have e5 := (hB 5 (by kernel_rfl)).trans hT5
  rw [if_pos (yac_ _ rfl)]
  clear hd hB
  go_simp
  exact hK _ (Below.refl _ _)
 refine DetJ.is (o := { dst := some 37, op := Op.indexAddr 68 (Operand.tmp 36) (Operand.const (Value.int IntKind.i64 2)), type := 0, pos := "law.go:95", after := #[{ on := 6, ground := Ground.data }, { on := 13, ground := Ground.gcOnly Departure.lateStores }], guard := none }) (u := .pointer (some ⟨g0, 10, none⟩)) (fun _ _ _ => trivial) [9, 12, 10, 13, 11, 14] hJo rfl (by decide) (by decide) (fun T w' hb hd hB K hK => ?sx8) ?rx8
 case sx8 =>
  have e36 := hd 6 36 _ (by decide) (by kernel_rfl) rfl rfl
  replace e36 : T.getD 36 undef = _ := e36
  rw [if_pos (yac_ _ rfl)]
  clear hd hB
  go_simp
  exact hK _ (Below.refl _ _)
 refine DetJ.is (o := { dst := some 38, op := Op.load 78 (Operand.tmp 37), type := 78, pos := "law.go:95", after := #[{ on := 7, ground := Ground.data }, { on := 13, ground := Ground.gcOnly Departure.lateStores }], guard := none }) (u := .agg #[.bool zb, .int .i64 zi, .slice zA zn zc, .int .i64 zj, .slice zB zm zd]) (fun _ _ _ => trivial) [9, 12, 10, 13, 11, 14] hJo rfl (by decide) (by decide) (fun T w' hb hd hB K hK => ?sx9) ?rx9
 case sx9 =>
  have e37 := hd 7 37 _ (by decide) (by kernel_rfl) rfl rfl
  replace e37 : T.getD 37 undef = _ := e37
  rw [if_pos (yac_ _ rfl)]
  have r0 := yaf_ hb hz0
  have r1 := yaf_ hb hz1
  have r2 := yaf_ hb hz2
  have r3 := yaf_ hb hz3
  have r4 := yaf_ hb hz4
  clear hd hB
  go_simp
  exact hK _ (Below.refl _ _)
 refine DetJ.cons (o := { dst := some 6, op := Op.alloc 78, type := 0, pos := "law.go:95", after := #[], guard := none }) (fun _ _ => True) rfl (by decide) (fun _ _ _ _ _ => trivial) (fun v d T w' hb hj hd0 hd hdd hB K hK => ?sx10) ?rx10
 case sx10 =>
  rw [if_pos (yac_ _ rfl)]
  clear hd hdd hB
  go_simp
  exact hK _ _ trivial (bA_ hb _) trivial (Boxes.alloc 9 (by decide) (by decide) v d w' hj hd0 hb.size)
 refine DetJ.cons (o := { dst := some 7, op := Op.alloc 78, type := 0, pos := "law.go:95", after := #[], guard := none }) (fun _ _ => True) rfl (by decide) (fun _ _ _ _ _ => trivial) (fun v d T w' hb hj hd0 hd hdd hB K hK => ?sx11) ?rx11
 case sx11 =>
  rw [if_pos (yac_ _ rfl)]
  clear hd hdd hB
  go_simp
  exact hK _ _ trivial (bA_ hb _) trivial (Boxes.alloc 10 (by decide) (by decide) v d w' hj hd0 hb.size)
 refine DetJ.cons (o := { dst := some 8, op := Op.alloc 78, type := 0, pos := "law.go:95", after := #[], guard := none }) (fun _ _ => True) rfl (by decide) (fun _ _ _ _ _ => trivial) (fun v d T w' hb hj hd0 hd hdd hB K hK => ?sx12) ?rx12
 case sx12 =>
  rw [if_pos (yac_ _ rfl)]
  clear hd hdd hB
  go_simp
  exact hK _ _ trivial (bA_ hb _) trivial (Boxes.alloc 11 (by decide) (by decide) v d w' hj hd0 hb.size)
 refine DetJ.cons (o := { dst := none, op := Op.store 78 (Operand.tmp 6) (Operand.tmp 32), type := 0, pos := "law.go:95", after := #[{ on := 9, ground := Ground.data }, { on := 2, ground := Ground.data }, { on := 0, ground := Ground.phase }, { on := 1, ground := Ground.phase }, { on := 2, ground := Ground.phase }, { on := 3, ground := Ground.textOnly Departure.lateStores }, { on := 4, ground := Ground.textOnly Departure.lateStores }, { on := 5, ground := Ground.textOnly Departure.lateStores }, { on := 6, ground := Ground.textOnly Departure.lateStores }, { on := 7, ground := Ground.textOnly Departure.lateStores }, { on := 8, ground := Ground.textOnly Departure.lateStores }, { on := 9, ground := Ground.phase }, { on := 10, ground := Ground.phase }, { on := 11, ground := Ground.phase }], guard := none }) (fun _ _ => True) rfl (by decide) (fun _ _ _ _ _ => trivial) (fun v d T w' hb hj hd0 hd hdd hB K hK => ?sx13) ?rx13
 case sx13 =>
  have e6 := (hdd 9 (by kernel_rfl)).2 6 rfl
  have e32 := hd 2 32 _ (by decide) (by kernel_rfl) rfl rfl
  replace e32 : T.getD 32 undef = _ := e32
  rw [if_pos (yac_ _ rfl)]
  have ea := (hdd 9 (by kernel_rfl)).1
  have ex := (hdd 2 (by kernel_rfl)).1
  have vx := (hdd 2 (by kernel_rfl)).2 32 rfl
  obtain ⟨g, va, hge, hlt, hbx⟩ := hj.1 ⟨9, 12, 2⟩ (by simp) ea
  rw [if_neg (by rw [show d 12 = false from hd0]; decide)] at hbx
  replace e6 := e6.trans va
  have q0 : w'.cell? ⟨g, 0, none⟩ = some (.bool false) := (yaa_ hbx 0).trans rfl
  have fz0 := yab_ hbx 0
  have q1 : w'.cell? ⟨g, 1, none⟩ = some (.int .i64 0) := (yaa_ hbx 1).trans rfl
  have fz1 := yab_ hbx 1
  have q2 : w'.cell? ⟨g, 2, none⟩ = some (.slice none 0 0) := (yaa_ hbx 2).trans rfl
  have fz2 := yab_ hbx 2
  have q3 : w'.cell? ⟨g, 3, none⟩ = some (.int .i64 0) := (yaa_ hbx 3).trans rfl
  have fz3 := yab_ hbx 3
  have q4 : w'.cell? ⟨g, 4, none⟩ = some (.slice none 0 0) := (yaa_ hbx 4).trans rfl
  have fz4 := yab_ hbx 4
  have hd0' := Az_.mk hd0
  have hev : T.getD 32 undef = .agg #[.bool xb, .int .i64 xi, .slice xA xn xc, .int .i64 xj, .slice xB xm xd] := hd 2 32 _ (by decide) (by kernel_rfl) rfl rfl
  have vx' := Az_.mk (vx.symm.trans hev)
  replace e32 := hev
  clear hd hdd hB vx hd0 hev
  go_simp
  refine hK undef _ trivial (((((hb.setCell hge _).setCell hge _).setCell hge _).setCell hge _).setCell hge _) trivial (Boxes.fill ⟨9, 12, 2⟩ (by simp) (by intro b' h; simp at h; rcases h with rfl | rfl | rfl <;> simp) (by decide) (by decide) (by intro b' h; simp at h; rcases h with rfl | rfl | rfl <;> simp) v d w' _ _ g hj ea ex va ?_ (fun k hk => setCell5_far k hk) (by simp [setCell_size]))
  refine (blk_set (blk_set (blk_set (blk_set (blk_set hbx 0 _) 1 _) 2 _) 3 _) 4 _).trans ?_
  show some (Obj.cells _ 78 (0, 0)) = some (Obj.cells (cellsOf (v 2)) 78 (0, 0))
  rw [vx'.out]
  rfl
 refine DetJ.cons (o := { dst := none, op := Op.store 78 (Operand.tmp 7) (Operand.tmp 35), type := 0, pos := "law.go:95", after := #[{ on := 10, ground := Ground.data }, { on := 5, ground := Ground.data }, { on := 12, ground := Ground.chain }, { on := 0, ground := Ground.phase }, { on := 1, ground := Ground.phase }, { on := 2, ground := Ground.phase }, { on := 3, ground := Ground.phase }, { on := 4, ground := Ground.phase }, { on := 5, ground := Ground.phase }, { on := 6, ground := Ground.textOnly Departure.lateStores }, { on := 7, ground := Ground.textOnly Departure.lateStores }, { on := 8, ground := Ground.textOnly Departure.lateStores }, { on := 9, ground := Ground.phase }, { on := 10, ground := Ground.phase }, { on := 11, ground := Ground.phase }, { on := 12, ground := Ground.phase }], guard := none }) (fun _ _ => True) rfl (by decide) (fun _ _ _ _ _ => trivial) (fun v d T w' hb hj hd0 hd hdd hB K hK => ?sx14) ?rx14
 case sx14 =>
  have e7 := (hdd 10 (by kernel_rfl)).2 7 rfl
  have e35 := hd 5 35 _ (by decide) (by kernel_rfl) rfl rfl
  replace e35 : T.getD 35 undef = _ := e35
  rw [if_pos (yac_ _ rfl)]
  have ea := (hdd 10 (by kernel_rfl)).1
  have ex := (hdd 5 (by kernel_rfl)).1
  have vx := (hdd 5 (by kernel_rfl)).2 35 rfl
  obtain ⟨g, va, hge, hlt, hbx⟩ := hj.1 ⟨10, 13, 5⟩ (by simp) ea
  rw [if_neg (by rw [show d 13 = false from hd0]; decide)] at hbx
  replace e7 := e7.trans va
  have q0 : w'.cell? ⟨g, 0, none⟩ = some (.bool false) := (yaa_ hbx 0).trans rfl
  have fz0 := yab_ hbx 0
  have q1 : w'.cell? ⟨g, 1, none⟩ = some (.int .i64 0) := (yaa_ hbx 1).trans rfl
  have fz1 := yab_ hbx 1
  have q2 : w'.cell? ⟨g, 2, none⟩ = some (.slice none 0 0) := (yaa_ hbx 2).trans rfl
  have fz2 := yab_ hbx 2
  have q3 : w'.cell? ⟨g, 3, none⟩ = some (.int .i64 0) := (yaa_ hbx 3).trans rfl
  have fz3 := yab_ hbx 3
  have q4 : w'.cell? ⟨g, 4, none⟩ = some (.slice none 0 0) := (yaa_ hbx 4).trans rfl
  have fz4 := yab_ hbx 4
  have hd0' := Az_.mk hd0
  have hev : T.getD 35 undef = .agg #[.bool yb, .int .i64 yi, .slice yA yn yc, .int .i64 yj, .slice yB ym yd] := hd 5 35 _ (by decide) (by kernel_rfl) rfl rfl
  have vx' := Az_.mk (vx.symm.trans hev)
  replace e35 := hev
  clear hd hdd hB vx hd0 hev
  go_simp
  refine hK undef _ trivial (((((hb.setCell hge _).setCell hge _).setCell hge _).setCell hge _).setCell hge _) trivial (Boxes.fill ⟨10, 13, 5⟩ (by simp) (by intro b' h; simp at h; rcases h with rfl | rfl | rfl <;> simp) (by decide) (by decide) (by intro b' h; simp at h; rcases h with rfl | rfl | rfl <;> simp) v d w' _ _ g hj ea ex va ?_ (fun k hk => setCell5_far k hk) (by simp [setCell_size]))
  refine (blk_set (blk_set (blk_set (blk_set (blk_set hbx 0 _) 1 _) 2 _) 3 _) 4 _).trans ?_
  show some (Obj.cells _ 78 (0, 0)) = some (Obj.cells (cellsOf (v 5)) 78 (0, 0))
  rw [vx'.out]
  rfl
 refine DetJ.cons (o := { dst := none, op := Op.store 78 (Operand.tmp 8) (Operand.tmp 38), type := 0, pos := "law.go:95", after := #[{ on := 11, ground := Ground.data }, { on := 8, ground := Ground.data }, { on := 13, ground := Ground.chain }, { on := 0, ground := Ground.phase }, { on := 1, ground := Ground.phase }, { on := 2, ground := Ground.phase }, { on := 3, ground := Ground.phase }, { on := 4, ground := Ground.phase }, { on := 5, ground := Ground.phase }, { on := 6, ground := Ground.phase }, { on := 7, ground := Ground.phase }, { on := 8, ground := Ground.phase }, { on := 9, ground := Ground.phase }, { on := 10, ground := Ground.phase }, { on := 11, ground := Ground.phase }, { on := 12, ground := Ground.phase }, { on := 13, ground := Ground.phase }], guard := none }) (fun _ _ => True) rfl (by decide) (fun _ _ _ _ _ => trivial) (fun v d T w' hb hj hd0 hd hdd hB K hK => ?sx15) ?rx15
 case sx15 =>
  have e8 := (hdd 11 (by kernel_rfl)).2 8 rfl
  have e38 := hd 8 38 _ (by decide) (by kernel_rfl) rfl rfl
  replace e38 : T.getD 38 undef = _ := e38
  rw [if_pos (yac_ _ rfl)]
  have ea := (hdd 11 (by kernel_rfl)).1
  have ex := (hdd 8 (by kernel_rfl)).1
  have vx := (hdd 8 (by kernel_rfl)).2 38 rfl
  obtain ⟨g, va, hge, hlt, hbx⟩ := hj.1 ⟨11, 14, 8⟩ (by simp) ea
  rw [if_neg (by rw [show d 14 = false from hd0]; decide)] at hbx
  replace e8 := e8.trans va
  have q0 : w'.cell? ⟨g, 0, none⟩ = some (.bool false) := (yaa_ hbx 0).trans rfl
  have fz0 := yab_ hbx 0
  have q1 : w'.cell? ⟨g, 1, none⟩ = some (.int .i64 0) := (yaa_ hbx 1).trans rfl
  have fz1 := yab_ hbx 1
  have q2 : w'.cell? ⟨g, 2, none⟩ = some (.slice none 0 0) := (yaa_ hbx 2).trans rfl
  have fz2 := yab_ hbx 2
  have q3 : w'.cell? ⟨g, 3, none⟩ = some (.int .i64 0) := (yaa_ hbx 3).trans rfl
  have fz3 := yab_ hbx 3
  have q4 : w'.cell? ⟨g, 4, none⟩ = some (.slice none 0 0) := (yaa_ hbx 4).trans rfl
  have fz4 := yab_ hbx 4
  have hd0' := Az_.mk hd0
  have hev : T.getD 38 undef = .agg #[.bool zb, .int .i64 zi, .slice zA zn zc, .int .i64 zj, .slice zB zm zd] := hd 8 38 _ (by decide) (by kernel_rfl) rfl rfl
  have vx' := Az_.mk (vx.symm.trans hev)
  replace e38 := hev
  clear hd hdd hB vx hd0 hev
  go_simp
  refine hK undef _ trivial (((((hb.setCell hge _).setCell hge _).setCell hge _).setCell hge _).setCell hge _) trivial (Boxes.fill ⟨11, 14, 8⟩ (by simp) (by intro b' h; simp at h; rcases h with rfl | rfl | rfl <;> simp) (by decide) (by decide) (by intro b' h; simp at h; rcases h with rfl | rfl | rfl <;> simp) v d w' _ _ g hj ea ex va ?_ (fun k hk => setCell5_far k hk) (by simp [setCell_size]))
  refine (blk_set (blk_set (blk_set (blk_set (blk_set hbx 0 _) 1 _) 2 _) 3 _) 4 _).trans ?_
  show some (Obj.cells _ 78 (0, 0)) = some (Obj.cells (cellsOf (v 8)) 78 (0, 0))
  rw [vx'.out]
  rfl
 refine DetJ.done [some 30, some 31, some 32, some 33, some 34, some 35, some 36, some 37, some 38, some 6, some 7, some 8, none, none, none] (by kernel_rfl) rfl rfl ?_
 intro v d w' hb hv hall hj
 have f2 := hv 2 _ (by decide) rfl
 have f5 := hv 5 _ (by decide) rfl
 have f8 := hv 8 _ (by decide) rfl
 obtain ⟨ga, fa, hga, _, hba⟩ := hj.1 ⟨9, 12, 2⟩ (by simp) (hall 9 (by decide))
 obtain ⟨gb, fb, hgb, _, hbb⟩ := hj.1 ⟨10, 13, 5⟩ (by simp) (hall 10 (by decide))
 obtain ⟨gd, fd, hgd, _, hbd⟩ := hj.1 ⟨11, 14, 8⟩ (by simp) (hall 11 (by decide))
 have n1 : ga ≠ gb := fun e => hj.2.2 ⟨9, 12, 2⟩ (by simp) ⟨10, 13, 5⟩ (by simp) (by decide) (hall 9 (by decide)) (hall 10 (by decide)) (fa.trans (e ▸ fb.symm))
 have n2 : ga ≠ gd := fun e => hj.2.2 ⟨9, 12, 2⟩ (by simp) ⟨11, 14, 8⟩ (by simp) (by decide) (hall 9 (by decide)) (hall 11 (by decide)) (fa.trans (e ▸ fd.symm))
 have n3 : gb ≠ gd := fun e => hj.2.2 ⟨10, 13, 5⟩ (by simp) ⟨11, 14, 8⟩ (by simp) (by decide) (hall 10 (by decide)) (hall 11 (by decide)) (fb.trans (e ▸ fd.symm))
 rw [if_pos (hall 12 (by decide)), show cellsOf (v 2) = _ from congrArg cellsOf f2] at hba
 rw [if_pos (hall 13 (by decide)), show cellsOf (v 5) = _ from congrArg cellsOf f5] at hbb
 rw [if_pos (hall 14 (by decide)), show cellsOf (v 8) = _ from congrArg cellsOf f8] at hbd
 exact hQ v w' ga gb gd fa fb fd hga hgb hgd n1 n2 n3 hba hbb hbd hb
set_option maxHeartbeats 4000000 in
set_option maxRecDepth 100000 in
theorem OrderRules_r12 {id : Nat} {a : Act} {w : World} {Q : Exit → Act → World → Prop} {ga : Nat} {xb : Bool} {xi xj : Int} {xA xB : Option Addr} {xn xc xm xd : Nat}
  (hr : regionOk #[{ dst := some 85, op := Op.load 78 (Operand.tmp 6), type := 78, pos := "law.go:104", after := #[], guard := none }, { dst := some 86, op := Op.load 78 (Operand.tmp 6), type := 78, pos := "law.go:104", after := #[{ on := 4, ground := Ground.gcOnly Departure.lateStores }], guard := none }, { dst := some 10, op := Op.alloc 78, type := 0, pos := "law.go:104", after := #[], guard := none }, { dst := some 11, op := Op.alloc 78, type := 0, pos := "law.go:104", after := #[], guard := none }, { dst := none, op := Op.store 78 (Operand.tmp 10) (Operand.tmp 85), type := 0, pos := "law.go:104", after := #[{ on := 2, ground := Ground.data }, { on := 0, ground := Ground.data }, { on := 0, ground := Ground.phase }, { on := 1, ground := Ground.textOnly Departure.lateStores }, { on := 2, ground := Ground.phase }, { on := 3, ground := Ground.phase }], guard := none }, { dst := none, op := Op.store 78 (Operand.tmp 11) (Operand.tmp 86), type := 0, pos := "law.go:104", after := #[{ on := 3, ground := Ground.data }, { on := 1, ground := Ground.data }, { on := 4, ground := Ground.chain }, { on := 0, ground := Ground.phase }, { on := 1, ground := Ground.phase }, { on := 2, ground := Ground.phase }, { on := 3, ground := Ground.phase }, { on := 4, ground := Ground.phase }], guard := none }] a.tmps.size = true)
  (hT6 : a.tmps.getD 6 undef = .pointer (some ⟨ga, 0, none⟩)) (hX6 : w.heap[ga]? = some (.cells #[.bool xb, .int .i64 xi, .slice xA xn xc, .int .i64 xj, .slice xB xm xd] 78 (0, 0)))
  (hQ : ∀ v w' gp gq, v 2 = .pointer (some ⟨gp, 0, none⟩) → v 3 = .pointer (some ⟨gq, 0, none⟩) → w.heap.size ≤ gp → w.heap.size ≤ gq → gp ≠ gq → w'.heap[gp]? = some (.cells #[.bool xb, .int .i64 xi, .slice xA xn xc, .int .i64 xj, .slice xB xm xd] 78 (0, 0)) → w'.heap[gq]? = some (.cells #[.bool xb, .int .i64 xi, .slice xA xn xc, .int .i64 xj, .slice xB xm xd] 78 (0, 0)) → Below w.heap.size w w' → Q .normal { tmps := layL [some 85, some 86, some 10, some 11, none, none] 0 v a.tmps, defers := a.defers } w') :
  (Code.region id #[{ dst := some 85, op := Op.load 78 (Operand.tmp 6), type := 78, pos := "law.go:104", after := #[], guard := none }, { dst := some 86, op := Op.load 78 (Operand.tmp 6), type := 78, pos := "law.go:104", after := #[{ on := 4, ground := Ground.gcOnly Departure.lateStores }], guard := none }, { dst := some 10, op := Op.alloc 78, type := 0, pos := "law.go:104", after := #[], guard := none }, { dst := some 11, op := Op.alloc 78, type := 0, pos := "law.go:104", after := #[], guard := none }, { dst := none, op := Op.store 78 (Operand.tmp 10) (Operand.tmp 85), type := 0, pos := "law.go:104", after := #[{ on := 2, ground := Ground.data }, { on := 0, ground := Ground.data }, { on := 0, ground := Ground.phase }, { on := 1, ground := Ground.textOnly Departure.lateStores }, { on := 2, ground := Ground.phase }, { on := 3, ground := Ground.phase }], guard := none }, { dst := none, op := Op.store 78 (Operand.tmp 11) (Operand.tmp 86), type := 0, pos := "law.go:104", after := #[{ on := 3, ground := Ground.data }, { on := 1, ground := Ground.data }, { on := 4, ground := Ground.chain }, { on := 0, ground := Ground.phase }, { on := 1, ground := Ground.phase }, { on := 2, ground := Ground.phase }, { on := 3, ground := Ground.phase }, { on := 4, ground := Ground.phase }], guard := none }] true).wp Try.prog Q a w := by
 have hmx : Try.prog.follows .mixedOrders = true := by kernel_rfl
 have hJo : ∀ i, i ∉ [2, 4, 3, 5] → ∀ v d (w1 w2 : World) u, (Boxes w.heap.size #[.bool false, .int .i64 0, .slice none 0 0, .int .i64 0, .slice none 0 0] 78 [⟨2, 4, 0⟩, ⟨3, 5, 1⟩]) v d w1 → d i = false → Below w1.heap.size w1 w2 → (Boxes w.heap.size #[.bool false, .int .i64 0, .slice none 0 0, .int .i64 0, .slice none 0 0] 78 [⟨2, 4, 0⟩, ⟨3, 5, 1⟩]) (upd v i u) (upd d i true) w2 := fun i hi v d w1 w2 u h hd hb => Boxes.other i (show i ∉ Boxes.ids [⟨2, 4, 0⟩, ⟨3, 5, 1⟩] from hi) v d w1 w2 u h hd hb
 refine region_detJ (fun _ _ => True) (Boxes w.heap.size #[.bool false, .int .i64 0, .slice none 0 0, .int .i64 0, .slice none 0 0] 78 [⟨2, 4, 0⟩, ⟨3, 5, 1⟩]) 6 (trivial) (fun v => Boxes.start _ _ _ _ v _) hmx hr rfl ?_
 refine DetJ.is (o := { dst := some 85, op := Op.load 78 (Operand.tmp 6), type := 78, pos := "law.go:104", after := #[], guard := none }) (u := .agg #[.bool xb, .int .i64 xi, .slice xA xn xc, .int .i64 xj, .slice xB xm xd]) (fun _ _ _ => trivial) [2, 4, 3, 5] hJo rfl (by decide) (by decide) (fun T w' hb hd hB K hK => ?sx16) ?rx16
 case sx16 =>
  have e6 := (hB 6 (by kernel_rfl)).trans hT6
  have q6_0 : w'.cell? ⟨ga, 0, none⟩ = some (.bool xb) := (yaa_ (kB_ hX6 hb) 0).trans rfl
  have q6_1 : w'.cell? ⟨ga, 1, none⟩ = some (.int .i64 xi) := (yaa_ (kB_ hX6 hb) 1).trans rfl
  have q6_2 : w'.cell? ⟨ga, 2, none⟩ = some (.slice xA xn xc) := (yaa_ (kB_ hX6 hb) 2).trans rfl
  have q6_3 : w'.cell? ⟨ga, 3, none⟩ = some (.int .i64 xj) := (yaa_ (kB_ hX6 hb) 3).trans rfl
  have q6_4 : w'.cell? ⟨ga, 4, none⟩ = some (.slice xB xm xd) := (yaa_ (kB_ hX6 hb) 4).trans rfl
  rw [if_pos (yac_ _ rfl)]
  clear hd hB
  go_simp
  exact hK _ (Below.refl _ _)
 refine DetJ.is (o := { dst := some 86, op := Op.load 78 (Operand.tmp 6), type := 78, pos := "law.go:104", after := #[{ on := 4, ground := Ground.gcOnly Departure.lateStores }], guard := none }) (u := .agg #[.bool xb, .int .i64 xi, .slice xA xn xc, .int .i64 xj, .slice xB xm xd]) (fun _ _ _ => trivial) [2, 4, 3, 5] hJo rfl (by decide) (by decide) (fun T w' hb hd hB K hK => ?sx17) ?rx17
 case sx17 =>
  have e6 := (hB 6 (by kernel_rfl)).trans hT6
  have q6_0 : w'.cell? ⟨ga, 0, none⟩ = some (.bool xb) := (yaa_ (kB_ hX6 hb) 0).trans rfl
  have q6_1 : w'.cell? ⟨ga, 1, none⟩ = some (.int .i64 xi) := (yaa_ (kB_ hX6 hb) 1).trans rfl
  have q6_2 : w'.cell? ⟨ga, 2, none⟩ = some (.slice xA xn xc) := (yaa_ (kB_ hX6 hb) 2).trans rfl
  have q6_3 : w'.cell? ⟨ga, 3, none⟩ = some (.int .i64 xj) := (yaa_ (kB_ hX6 hb) 3).trans rfl
  have q6_4 : w'.cell? ⟨ga, 4, none⟩ = some (.slice xB xm xd) := (yaa_ (kB_ hX6 hb) 4).trans rfl
  rw [if_pos (yac_ _ rfl)]
  clear hd hB
  go_simp
  exact hK _ (Below.refl _ _)
 refine DetJ.cons (o := { dst := some 10, op := Op.alloc 78, type := 0, pos := "law.go:104", after := #[], guard := none }) (fun _ _ => True) rfl (by decide) (fun _ _ _ _ _ => trivial) (fun v d T w' hb hj hd0 hd hdd hB K hK => ?sx18) ?rx18
 case sx18 =>
  rw [if_pos (yac_ _ rfl)]
  clear hd hdd hB
  go_simp
  exact hK _ _ trivial (bA_ hb _) trivial (Boxes.alloc 2 (by decide) (by decide) v d w' hj hd0 hb.size)
 refine DetJ.cons (o := { dst := some 11, op := Op.alloc 78, type := 0, pos := "law.go:104", after := #[], guard := none }) (fun _ _ => True) rfl (by decide) (fun _ _ _ _ _ => trivial) (fun v d T w' hb hj hd0 hd hdd hB K hK => ?sx19) ?rx19
 case sx19 =>
  rw [if_pos (yac_ _ rfl)]
  clear hd hdd hB
  go_simp
  exact hK _ _ trivial (bA_ hb _) trivial (Boxes.alloc 3 (by decide) (by decide) v d w' hj hd0 hb.size)
 refine DetJ.cons (o := { dst := none, op := Op.store 78 (Operand.tmp 10) (Operand.tmp 85), type := 0, pos := "law.go:104", after := #[{ on := 2, ground := Ground.data }, { on := 0, ground := Ground.data }, { on := 0, ground := Ground.phase }, { on := 1, ground := Ground.textOnly Departure.lateStores }, { on := 2, ground := Ground.phase }, { on := 3, ground := Ground.phase }], guard := none }) (fun _ _ => True) rfl (by decide) (fun _ _ _ _ _ => trivial) (fun v d T w' hb hj hd0 hd hdd hB K hK => ?sx20) ?rx20
 case sx20 =>
  have e10 := (hdd 2 (by kernel_rfl)).2 10 rfl
  have e85 := hd 0 85 _ (by decide) (by kernel_rfl) rfl rfl
  replace e85 : T.getD 85 undef = _ := e85
  rw [if_pos (yac_ _ rfl)]
  have ea := (hdd 2 (by kernel_rfl)).1
  have ex := (hdd 0 (by kernel_rfl)).1
  have vx := (hdd 0 (by kernel_rfl)).2 85 rfl
  obtain ⟨g, va, hge, hlt, hbx⟩ := hj.1 ⟨2, 4, 0⟩ (by simp) ea
  rw [if_neg (by rw [show d 4 = false from hd0]; decide)] at hbx
  replace e10 := e10.trans va
  have q0 : w'.cell? ⟨g, 0, none⟩ = some (.bool false) := (yaa_ hbx 0).trans rfl
  have fz0 := yab_ hbx 0
  have q1 : w'.cell? ⟨g, 1, none⟩ = some (.int .i64 0) := (yaa_ hbx 1).trans rfl
  have fz1 := yab_ hbx 1
  have q2 : w'.cell? ⟨g, 2, none⟩ = some (.slice none 0 0) := (yaa_ hbx 2).trans rfl
  have fz2 := yab_ hbx 2
  have q3 : w'.cell? ⟨g, 3, none⟩ = some (.int .i64 0) := (yaa_ hbx 3).trans rfl
  have fz3 := yab_ hbx 3
  have q4 : w'.cell? ⟨g, 4, none⟩ = some (.slice none 0 0) := (yaa_ hbx 4).trans rfl
  have fz4 := yab_ hbx 4
  have hd0' := Az_.mk hd0
  have hev : T.getD 85 undef = .agg #[.bool xb, .int .i64 xi, .slice xA xn xc, .int .i64 xj, .slice xB xm xd] := hd 0 85 _ (by decide) (by kernel_rfl) rfl rfl
  have vx' := Az_.mk (vx.symm.trans hev)
  replace e85 := hev
  clear hd hdd hB vx hd0 hev
  go_simp
  refine hK undef _ trivial (((((hb.setCell hge _).setCell hge _).setCell hge _).setCell hge _).setCell hge _) trivial (Boxes.fill ⟨2, 4, 0⟩ (by simp) (by intro b' h; simp at h; rcases h with rfl | rfl <;> simp) (by decide) (by decide) (by intro b' h; simp at h; rcases h with rfl | rfl <;> simp) v d w' _ _ g hj ea ex va ?_ (fun k hk => setCell5_far k hk) (by simp [setCell_size]))
  refine (blk_set (blk_set (blk_set (blk_set (blk_set hbx 0 _) 1 _) 2 _) 3 _) 4 _).trans ?_
  show some (Obj.cells _ 78 (0, 0)) = some (Obj.cells (cellsOf (v 0)) 78 (0, 0))
  rw [vx'.out]
  rfl
 refine DetJ.cons (o := { dst := none, op := Op.store 78 (Operand.tmp 11) (Operand.tmp 86), type := 0, pos := "law.go:104", after := #[{ on := 3, ground := Ground.data }, { on := 1, ground := Ground.data }, { on := 4, ground := Ground.chain }, { on := 0, ground := Ground.phase }, { on := 1, ground := Ground.phase }, { on := 2, ground := Ground.phase }, { on := 3, ground := Ground.phase }, { on := 4, ground := Ground.phase }], guard := none }) (fun _ _ => True) rfl (by decide) (fun _ _ _ _ _ => trivial) (fun v d T w' hb hj hd0 hd hdd hB K hK => ?sx21) ?rx21
 case sx21 =>
  have e11 := (hdd 3 (by kernel_rfl)).2 11 rfl
  have e86 := hd 1 86 _ (by decide) (by kernel_rfl) rfl rfl
  replace e86 : T.getD 86 undef = _ := e86
  rw [if_pos (yac_ _ rfl)]
  have ea := (hdd 3 (by kernel_rfl)).1
  have ex := (hdd 1 (by kernel_rfl)).1
  have vx := (hdd 1 (by kernel_rfl)).2 86 rfl
  obtain ⟨g, va, hge, hlt, hbx⟩ := hj.1 ⟨3, 5, 1⟩ (by simp) ea
  rw [if_neg (by rw [show d 5 = false from hd0]; decide)] at hbx
  replace e11 := e11.trans va
  have q0 : w'.cell? ⟨g, 0, none⟩ = some (.bool false) := (yaa_ hbx 0).trans rfl
  have fz0 := yab_ hbx 0
  have q1 : w'.cell? ⟨g, 1, none⟩ = some (.int .i64 0) := (yaa_ hbx 1).trans rfl
  have fz1 := yab_ hbx 1
  have q2 : w'.cell? ⟨g, 2, none⟩ = some (.slice none 0 0) := (yaa_ hbx 2).trans rfl
  have fz2 := yab_ hbx 2
  have q3 : w'.cell? ⟨g, 3, none⟩ = some (.int .i64 0) := (yaa_ hbx 3).trans rfl
  have fz3 := yab_ hbx 3
  have q4 : w'.cell? ⟨g, 4, none⟩ = some (.slice none 0 0) := (yaa_ hbx 4).trans rfl
  have fz4 := yab_ hbx 4
  have hd0' := Az_.mk hd0
  have hev : T.getD 86 undef = .agg #[.bool xb, .int .i64 xi, .slice xA xn xc, .int .i64 xj, .slice xB xm xd] := hd 1 86 _ (by decide) (by kernel_rfl) rfl rfl
  have vx' := Az_.mk (vx.symm.trans hev)
  replace e86 := hev
  clear hd hdd hB vx hd0 hev
  go_simp
  refine hK undef _ trivial (((((hb.setCell hge _).setCell hge _).setCell hge _).setCell hge _).setCell hge _) trivial (Boxes.fill ⟨3, 5, 1⟩ (by simp) (by intro b' h; simp at h; rcases h with rfl | rfl <;> simp) (by decide) (by decide) (by intro b' h; simp at h; rcases h with rfl | rfl <;> simp) v d w' _ _ g hj ea ex va ?_ (fun k hk => setCell5_far k hk) (by simp [setCell_size]))
  refine (blk_set (blk_set (blk_set (blk_set (blk_set hbx 0 _) 1 _) 2 _) 3 _) 4 _).trans ?_
  show some (Obj.cells _ 78 (0, 0)) = some (Obj.cells (cellsOf (v 1)) 78 (0, 0))
  rw [vx'.out]
  rfl
 refine DetJ.done [some 85, some 86, some 10, some 11, none, none] (by kernel_rfl) rfl rfl ?_
 intro v d w' hb hv hall hj
 have f0 := hv 0 _ (by decide) rfl
 have f1 := hv 1 _ (by decide) rfl
 obtain ⟨gp, fp, hgp, _, hbp⟩ := hj.1 ⟨2, 4, 0⟩ (by simp) (hall 2 (by decide))
 obtain ⟨gq, fq, hgq, _, hbq⟩ := hj.1 ⟨3, 5, 1⟩ (by simp) (hall 3 (by decide))
 have n1 : gp ≠ gq := fun e => hj.2.2 ⟨2, 4, 0⟩ (by simp) ⟨3, 5, 1⟩ (by simp) (by decide) (hall 2 (by decide)) (hall 3 (by decide)) (fp.trans (e ▸ fq.symm))
 rw [if_pos (hall 4 (by decide)), show cellsOf (v 0) = _ from congrArg cellsOf f0] at hbp
 rw [if_pos (hall 5 (by decide)), show cellsOf (v 1) = _ from congrArg cellsOf f1] at hbq
 exact hQ v w' gp gq fp fq hgp hgq n1 hbp hbq hb
set_option maxHeartbeats 4000000 in
set_option maxRecDepth 100000 in
theorem OrderRules_r10t {id : Nat} {a : Act} {w : World} {Q : Exit → Act → World → Prop} {ga gb g0 cp : Nat} {xb : Bool} {xi xj : Int} {xA xB : Option Addr} {xn xc xm xd : Nat} {yb : Bool} {yi yj : Int} {yA yB : Option Addr} {yn yc ym yd : Nat} {ub : Bool} {ui uj : Int} {uA uB : Option Addr} {un uc um ud : Nat} {vb : Bool} {vi vj : Int} {vA vB : Option Addr} {vn vc vm vd : Nat}
  (hr : regionOk #[{ dst := some 72, op := Op.load 78 (Operand.tmp 6), type := 78, pos := "law.go:100", after := #[], guard := none }, { dst := some 73, op := Op.load 78 (Operand.tmp 7), type := 78, pos := "law.go:100", after := #[], guard := none }, { dst := some 74, op := Op.call { callee := Callee.value (Operand.func 66), args := #[Operand.tmp 72, Operand.tmp 73], argTypes := #[78, 78] }, type := 4, pos := "law.go:100", after := #[{ on := 0, ground := Ground.data }, { on := 1, ground := Ground.data }], guard := none }, { dst := some 75, op := Op.move (Operand.tmp 74), type := 4, pos := "law.go:100", after := #[{ on := 2, ground := Ground.data }, { on := 2, ground := Ground.chain }], guard := none }, { dst := some 76, op := Op.move (Operand.tmp 9), type := 68, pos := "law.go:100", after := #[{ on := 3, ground := Ground.guard }], guard := some (3, true) }, { dst := some 77, op := Op.indexAddr 68 (Operand.tmp 76) (Operand.const (Value.int IntKind.i64 0)), type := 0, pos := "law.go:100", after := #[{ on := 4, ground := Ground.data }, { on := 3, ground := Ground.guard }], guard := some (3, true) }, { dst := some 78, op := Op.load 78 (Operand.tmp 77), type := 78, pos := "law.go:100", after := #[{ on := 5, ground := Ground.data }, { on := 3, ground := Ground.guard }], guard := some (3, true) }, { dst := some 79, op := Op.move (Operand.tmp 9), type := 68, pos := "law.go:100", after := #[{ on := 3, ground := Ground.guard }], guard := some (3, true) }, { dst := some 80, op := Op.indexAddr 68 (Operand.tmp 79) (Operand.const (Value.int IntKind.i64 1)), type := 0, pos := "law.go:100", after := #[{ on := 7, ground := Ground.data }, { on := 3, ground := Ground.guard }], guard := some (3, true) }, { dst := some 81, op := Op.load 78 (Operand.tmp 80), type := 78, pos := "law.go:100", after := #[{ on := 8, ground := Ground.data }, { on := 3, ground := Ground.guard }], guard := some (3, true) }, { dst := some 82, op := Op.call { callee := Callee.value (Operand.func 66), args := #[Operand.tmp 78, Operand.tmp 81], argTypes := #[78, 78] }, type := 4, pos := "law.go:100", after := #[{ on := 6, ground := Ground.data }, { on := 9, ground := Ground.data }, { on := 3, ground := Ground.chain }, { on := 3, ground := Ground.guard }], guard := some (3, true) }, { dst := some 83, op := Op.unOp UnOp.not 4 (Operand.tmp 82), type := 4, pos := "law.go:100", after := #[{ on := 10, ground := Ground.data }, { on := 3, ground := Ground.guard }], guard := some (3, true) }, { dst := some 84, op := Op.pick (Operand.tmp 75) (Operand.tmp 83) (Operand.const (Value.bool false)), type := 4, pos := "law.go:100", after := #[{ on := 3, ground := Ground.data }, { on := 11, ground := Ground.data }], guard := none }] a.tmps.size = true)
  (hT9 : a.tmps.getD 9 undef = .slice (some ⟨g0, 0, none⟩) 3 cp)
  (hT6 : a.tmps.getD 6 undef = .pointer (some ⟨ga, 0, none⟩)) (hX6 : w.heap[ga]? = some (.cells #[.bool xb, .int .i64 xi, .slice xA xn xc, .int .i64 xj, .slice xB xm xd] 78 (0, 0)))
  (hT7 : a.tmps.getD 7 undef = .pointer (some ⟨gb, 0, none⟩)) (hX7 : w.heap[gb]? = some (.cells #[.bool yb, .int .i64 yi, .slice yA yn yc, .int .i64 yj, .slice yB ym yd] 78 (0, 0)))
  (hF2 : ∀ w1, Below w.heap.size w w1 → Calls Try.prog 66 #[.agg #[.bool xb, .int .i64 xi, .slice xA xn xc, .int .i64 xj, .slice xB xm xd], .agg #[.bool yb, .int .i64 yi, .slice yA yn yc, .int .i64 yj, .slice yB ym yd]] w1 fun e w2 => e = .returned (.bool true) ∧ Below w1.heap.size w1 w2)
  (hF10 : ∀ w1, Below w.heap.size w w1 → Calls Try.prog 66 #[.agg #[.bool ub, .int .i64 ui, .slice uA un uc, .int .i64 uj, .slice uB um ud], .agg #[.bool vb, .int .i64 vi, .slice vA vn vc, .int .i64 vj, .slice vB vm vd]] w1 fun e w2 => e = .returned (.bool true) ∧ Below w1.heap.size w1 w2)
  (hcp : 3 ≤ cp)
  (hu0 : w.cell? ⟨g0, 0, none⟩ = some (.bool ub))
  (hu1 : w.cell? ⟨g0, 1, none⟩ = some (.int .i64 ui))
  (hu2 : w.cell? ⟨g0, 2, none⟩ = some (.slice uA un uc))
  (hu3 : w.cell? ⟨g0, 3, none⟩ = some (.int .i64 uj))
  (hu4 : w.cell? ⟨g0, 4, none⟩ = some (.slice uB um ud))
  (hv0 : w.cell? ⟨g0, 5, none⟩ = some (.bool vb))
  (hv1 : w.cell? ⟨g0, 6, none⟩ = some (.int .i64 vi))
  (hv2 : w.cell? ⟨g0, 7, none⟩ = some (.slice vA vn vc))
  (hv3 : w.cell? ⟨g0, 8, none⟩ = some (.int .i64 vj))
  (hv4 : w.cell? ⟨g0, 9, none⟩ = some (.slice vB vm vd))
  (hK : ∀ v w', Below w.heap.size w w' → v 12 = .bool false → Q .normal { tmps := layL [some 72, some 73, some 74, some 75, some 76, some 77, some 78, some 79, some 80, some 81, some 82, some 83, some 84] 0 v a.tmps, defers := a.defers } w') :
  (Code.region id #[{ dst := some 72, op := Op.load 78 (Operand.tmp 6), type := 78, pos := "law.go:100", after := #[], guard := none }, { dst := some 73, op := Op.load 78 (Operand.tmp 7), type := 78, pos := "law.go:100", after := #[], guard := none }, { dst := some 74, op := Op.call { callee := Callee.value (Operand.func 66), args := #[Operand.tmp 72, Operand.tmp 73], argTypes := #[78, 78] }, type := 4, pos := "law.go:100", after := #[{ on := 0, ground := Ground.data }, { on := 1, ground := Ground.data }], guard := none }, { dst := some 75, op := Op.move (Operand.tmp 74), type := 4, pos := "law.go:100", after := #[{ on := 2, ground := Ground.data }, { on := 2, ground := Ground.chain }], guard := none }, { dst := some 76, op := Op.move (Operand.tmp 9), type := 68, pos := "law.go:100", after := #[{ on := 3, ground := Ground.guard }], guard := some (3, true) }, { dst := some 77, op := Op.indexAddr 68 (Operand.tmp 76) (Operand.const (Value.int IntKind.i64 0)), type := 0, pos := "law.go:100", after := #[{ on := 4, ground := Ground.data }, { on := 3, ground := Ground.guard }], guard := some (3, true) }, { dst := some 78, op := Op.load 78 (Operand.tmp 77), type := 78, pos := "law.go:100", after := #[{ on := 5, ground := Ground.data }, { on := 3, ground := Ground.guard }], guard := some (3, true) }, { dst := some 79, op := Op.move (Operand.tmp 9), type := 68, pos := "law.go:100", after := #[{ on := 3, ground := Ground.guard }], guard := some (3, true) }, { dst := some 80, op := Op.indexAddr 68 (Operand.tmp 79) (Operand.const (Value.int IntKind.i64 1)), type := 0, pos := "law.go:100", after := #[{ on := 7, ground := Ground.data }, { on := 3, ground := Ground.guard }], guard := some (3, true) }, { dst := some 81, op := Op.load 78 (Operand.tmp 80), type := 78, pos := "law.go:100", after := #[{ on := 8, ground := Ground.data }, { on := 3, ground := Ground.guard }], guard := some (3, true) }, { dst := some 82, op := Op.call { callee := Callee.value (Operand.func 66), args := #[Operand.tmp 78, Operand.tmp 81], argTypes := #[78, 78] }, type := 4, pos := "law.go:100", after := #[{ on := 6, ground := Ground.data }, { on := 9, ground := Ground.data }, { on := 3, ground := Ground.chain }, { on := 3, ground := Ground.guard }], guard := some (3, true) }, { dst := some 83, op := Op.unOp UnOp.not 4 (Operand.tmp 82), type := 4, pos := "law.go:100", after := #[{ on := 10, ground := Ground.data }, { on := 3, ground := Ground.guard }], guard := some (3, true) }, { dst := some 84, op := Op.pick (Operand.tmp 75) (Operand.tmp 83) (Operand.const (Value.bool false)), type := 4, pos := "law.go:100", after := #[{ on := 3, ground := Ground.data }, { on := 11, ground := Ground.data }], guard := none }] true).wp Try.prog Q a w := by
 have hmx : Try.prog.follows .mixedOrders = true := by kernel_rfl
 refine region_detR 13 hmx hr (by kernel_rfl) ?_
 refine DetR.is (o := { dst := some 72, op := Op.load 78 (Operand.tmp 6), type := 78, pos := "law.go:100", after := #[], guard := none }) (u := ?ux22) rfl (by decide) (fun T w' hb hd hB K hK => ?sx22) ?rx22
 case sx22 =>
  have e6 := (hB 6 (by kernel_rfl)).trans hT6
  have q6_0 : w'.cell? ⟨ga, 0, none⟩ = some (.bool xb) := (yaa_ (kB_ hX6 hb) 0).trans rfl
  have q6_1 : w'.cell? ⟨ga, 1, none⟩ = some (.int .i64 xi) := (yaa_ (kB_ hX6 hb) 1).trans rfl
  have q6_2 : w'.cell? ⟨ga, 2, none⟩ = some (.slice xA xn xc) := (yaa_ (kB_ hX6 hb) 2).trans rfl
  have q6_3 : w'.cell? ⟨ga, 3, none⟩ = some (.int .i64 xj) := (yaa_ (kB_ hX6 hb) 3).trans rfl
  have q6_4 : w'.cell? ⟨ga, 4, none⟩ = some (.slice xB xm xd) := (yaa_ (kB_ hX6 hb) 4).trans rfl
  rw [if_pos (yac_ _ rfl)]
  clear hd hB
  go_simp
  exact hK _ (Below.refl _ _)
 refine DetR.is (o := { dst := some 73, op := Op.load 78 (Operand.tmp 7), type := 78, pos := "law.go:100", after := #[], guard := none }) (u := ?ux23) rfl (by decide) (fun T w' hb hd hB K hK => ?sx23) ?rx23
 case sx23 =>
  have e7 := (hB 7 (by kernel_rfl)).trans hT7
  have q7_0 : w'.cell? ⟨gb, 0, none⟩ = some (.bool yb) := (yaa_ (kB_ hX7 hb) 0).trans rfl
  have q7_1 : w'.cell? ⟨gb, 1, none⟩ = some (.int .i64 yi) := (yaa_ (kB_ hX7 hb) 1).trans rfl
  have q7_2 : w'.cell? ⟨gb, 2, none⟩ = some (.slice yA yn yc) := (yaa_ (kB_ hX7 hb) 2).trans rfl
  have q7_3 : w'.cell? ⟨gb, 3, none⟩ = some (.int .i64 yj) := (yaa_ (kB_ hX7 hb) 3).trans rfl
  have q7_4 : w'.cell? ⟨gb, 4, none⟩ = some (.slice yB ym yd) := (yaa_ (kB_ hX7 hb) 4).trans rfl
  rw [if_pos (yac_ _ rfl)]
  clear hd hB
  go_simp
  exact hK _ (Below.refl _ _)
 refine DetR.is (o := { dst := some 74, op := Op.call { callee := Callee.value (Operand.func 66), args := #[Operand.tmp 72, Operand.tmp 73], argTypes := #[78, 78] }, type := 4, pos := "law.go:100", after := #[{ on := 0, ground := Ground.data }, { on := 1, ground := Ground.data }], guard := none }) (u := .bool true) rfl (by decide) (fun T w' hb hd hB K hK => ?sx24) ?rx24
 case sx24 =>
  have e72 := hd 0 72 _ (by decide) (by kernel_rfl) rfl rfl
  replace e72 : T.getD 72 undef = _ := e72
  have e73 := hd 1 73 _ (by decide) (by kernel_rfl) rfl rfl
  replace e73 : T.getD 73 undef = _ := e73
  rw [if_pos (yac_ _ rfl)]
  have hcl := hF2 w' hb
  clear hd hB
  go_simp
  go_at_call 66
  refine hcl.mono ?_
  rintro e w2 ⟨rfl, h2⟩
  exact hK _ h2
 refine DetR.is (o := { dst := some 75, op := Op.move (Operand.tmp 74), type := 4, pos := "law.go:100", after := #[{ on := 2, ground := Ground.data }, { on := 2, ground := Ground.chain }], guard := none }) (u := .bool true) rfl (by decide) (fun T w' hb hd hB K hK => ?sx25) ?rx25
 case sx25 =>
  have e74 := hd 2 74 _ (by decide) (by kernel_rfl) rfl rfl
  replace e74 : T.getD 74 undef = _ := e74
  rw [if_pos (yac_ _ rfl)]
  clear hd hB
  go_simp
  exact hK _ (Below.refl _ _)
 refine DetR.is (o := { dst := some 76, op := Op.move (Operand.tmp 9), type := 68, pos := "law.go:100", after := #[{ on := 3, ground := Ground.guard }], guard := some (3, true) }) (u := ?ux26) rfl (by decide) (fun T w' hb hd hB K hK => ?sx26) ?rx26
 case sx26 =>
  have e9 := (hB 9 (by kernel_rfl)).trans hT9
  have eg := hd 3 75 _ (by decide) (by kernel_rfl) rfl rfl
  replace eg : T.getD 75 undef = .bool true := eg
  rw [if_pos (wanted_yes 3 75 true rfl rfl eg)]
  clear eg
  clear hd hB
  go_simp
  exact hK _ (Below.refl _ _)
 refine DetR.is (o := { dst := some 77, op := Op.indexAddr 68 (Operand.tmp 76) (Operand.const (Value.int IntKind.i64 0)), type := 0, pos := "law.go:100", after := #[{ on := 4, ground := Ground.data }, { on := 3, ground := Ground.guard }], guard := some (3, true) }) (u := .pointer (some ⟨g0, 0, none⟩)) rfl (by decide) (fun T w' hb hd hB K hK => ?sx27) ?rx27
 case sx27 =>
  have e76 := hd 4 76 _ (by decide) (by kernel_rfl) rfl rfl
  replace e76 : T.getD 76 undef = _ := e76
  have eg := hd 3 75 _ (by decide) (by kernel_rfl) rfl rfl
  replace eg : T.getD 75 undef = .bool true := eg
  rw [if_pos (wanted_yes 3 75 true rfl rfl eg)]
  clear eg
  clear hd hB
  go_simp
  exact hK _ (Below.refl _ _)
 refine DetR.is (o := { dst := some 78, op := Op.load 78 (Operand.tmp 77), type := 78, pos := "law.go:100", after := #[{ on := 5, ground := Ground.data }, { on := 3, ground := Ground.guard }], guard := some (3, true) }) (u := .agg #[.bool ub, .int .i64 ui, .slice uA un uc, .int .i64 uj, .slice uB um ud]) rfl (by decide) (fun T w' hb hd hB K hK => ?sx28) ?rx28
 case sx28 =>
  have e77 := hd 5 77 _ (by decide) (by kernel_rfl) rfl rfl
  replace e77 : T.getD 77 undef = _ := e77
  have eg := hd 3 75 _ (by decide) (by kernel_rfl) rfl rfl
  replace eg : T.getD 75 undef = .bool true := eg
  rw [if_pos (wanted_yes 3 75 true rfl rfl eg)]
  clear eg
  have r0 := yaf_ hb hu0
  have r1 := yaf_ hb hu1
  have r2 := yaf_ hb hu2
  have r3 := yaf_ hb hu3
  have r4 := yaf_ hb hu4
  clear hd hB
  go_simp
  exact hK _ (Below.refl _ _)
 refine DetR.is (o := { dst := some 79, op := Op.move (Operand.tmp 9), type := 68, pos := "law.go:100", after := #[{ on := 3, ground := Ground.guard }], guard := some (3, true) }) (u := ?ux29) rfl (by decide) (fun T w' hb hd hB K hK => ?sx29) ?rx29
 case sx29 =>
  have e9 := (hB 9 (by kernel_rfl)).trans hT9
  have eg := hd 3 75 _ (by decide) (by kernel_rfl) rfl rfl
  replace eg : T.getD 75 undef = .bool true := eg
  rw [if_pos (wanted_yes 3 75 true rfl rfl eg)]
  clear eg
  clear hd hB
  go_simp
  exact hK _ (Below.refl _ _)
 refine DetR.is (o := { dst := some 80, op := Op.indexAddr 68 (Operand.tmp 79) (Operand.const (Value.int IntKind.i64 1)), type := 0, pos := "law.go:100", after := #[{ on := 7, ground := Ground.data }, { on := 3, ground := Ground.guard }], guard := some (3, true) }) (u := .pointer (some ⟨g0, 5, none⟩)) rfl (by decide) (fun T w' hb hd hB K hK => ?sx30) ?rx30
 case sx30 =>
  have e79 := hd 7 79 _ (by decide) (by kernel_rfl) rfl rfl
  replace e79 : T.getD 79 undef = _ := e79
  have eg := hd 3 75 _ (by decide) (by kernel_rfl) rfl rfl
  replace eg : T.getD 75 undef = .bool true := eg
  rw [if_pos (wanted_yes 3 75 true rfl rfl eg)]
  clear eg
  clear hd hB
  go_simp
  exact hK _ (Below.refl _ _)
 refine DetR.is (o := { dst := some 81, op := Op.load 78 (Operand.tmp 80), type := 78, pos := "law.go:100", after := #[{ on := 8, ground := Ground.data }, { on := 3, ground := Ground.guard }], guard := some (3, true) }) (u := .agg #[.bool vb, .int .i64 vi, .slice vA vn vc, .int .i64 vj, .slice vB vm vd]) rfl (by decide) (fun T w' hb hd hB K hK => ?sx31) ?rx31
 case sx31 =>
  have e80 := hd 8 80 _ (by decide) (by kernel_rfl) rfl rfl
  replace e80 : T.getD 80 undef = _ := e80
  have eg := hd 3 75 _ (by decide) (by kernel_rfl) rfl rfl
  replace eg : T.getD 75 undef = .bool true := eg
  rw [if_pos (wanted_yes 3 75 true rfl rfl eg)]
  clear eg
  have r0 := yaf_ hb hv0
  have r1 := yaf_ hb hv1
  have r2 := yaf_ hb hv2
  have r3 := yaf_ hb hv3
  have r4 := yaf_ hb hv4
  clear hd hB
  go_simp
  exact hK _ (Below.refl _ _)
 refine DetR.is (o := { dst := some 82, op := Op.call { callee := Callee.value (Operand.func 66), args := #[Operand.tmp 78, Operand.tmp 81], argTypes := #[78, 78] }, type := 4, pos := "law.go:100", after := #[{ on := 6, ground := Ground.data }, { on := 9, ground := Ground.data }, { on := 3, ground := Ground.chain }, { on := 3, ground := Ground.guard }], guard := some (3, true) }) (u := .bool true) rfl (by decide) (fun T w' hb hd hB K hK => ?sx32) ?rx32
 case sx32 =>
  have e78 := hd 6 78 _ (by decide) (by kernel_rfl) rfl rfl
  replace e78 : T.getD 78 undef = _ := e78
  have e81 := hd 9 81 _ (by decide) (by kernel_rfl) rfl rfl
  replace e81 : T.getD 81 undef = _ := e81
  have eg := hd 3 75 _ (by decide) (by kernel_rfl) rfl rfl
  replace eg : T.getD 75 undef = .bool true := eg
  rw [if_pos (wanted_yes 3 75 true rfl rfl eg)]
  clear eg
  have hcl := hF10 w' hb
  clear hd hB
  go_simp
  go_at_call 66
  refine hcl.mono ?_
  rintro e w2 ⟨rfl, h2⟩
  exact hK _ h2
 refine DetR.is (o := { dst := some 83, op := Op.unOp UnOp.not 4 (Operand.tmp 82), type := 4, pos := "law.go:100", after := #[{ on := 10, ground := Ground.data }, { on := 3, ground := Ground.guard }], guard := some (3, true) }) (u := .bool false) rfl (by decide) (fun T w' hb hd hB K hK => ?sx33) ?rx33
 case sx33 =>
  have e82 := hd 10 82 _ (by decide) (by kernel_rfl) rfl rfl
  replace e82 : T.getD 82 undef = _ := e82
  have eg := hd 3 75 _ (by decide) (by kernel_rfl) rfl rfl
  replace eg : T.getD 75 undef = .bool true := eg
  rw [if_pos (wanted_yes 3 75 true rfl rfl eg)]
  clear eg
  clear hd hB
  go_simp
  exact hK _ (Below.refl _ _)
 refine DetR.is (o := { dst := some 84, op := Op.pick (Operand.tmp 75) (Operand.tmp 83) (Operand.const (Value.bool false)), type := 4, pos := "law.go:100", after := #[{ on := 3, ground := Ground.data }, { on := 11, ground := Ground.data }], guard := none }) (u := .bool false) rfl (by decide) (fun T w' hb hd hB K hK => ?sx34) ?rx34
 case sx34 =>
  have e75 := hd 3 75 _ (by decide) (by kernel_rfl) rfl rfl
  replace e75 : T.getD 75 undef = _ := e75
  have e83 := hd 11 83 _ (by decide) (by kernel_rfl) rfl rfl
  replace e83 : T.getD 83 undef = _ := e83
  rw [if_pos (yac_ _ rfl)]
  clear hd hB
  go_simp
  exact hK _ (Below.refl _ _)
 refine DetR.done [some 72, some 73, some 74, some 75, some 76, some 77, some 78, some 79, some 80, some 81, some 82, some 83, some 84] (by kernel_rfl) rfl (by kernel_rfl) ?_
 intro v w' hb hv
 exact hK v w' hb (hv 12 _ (by decide) rfl)
set_option maxHeartbeats 4000000 in
set_option maxRecDepth 100000 in
theorem OrderRules_r10f {id : Nat} {a : Act} {w : World} {Q : Exit → Act → World → Prop} {ga gb g0 cp : Nat} {xb : Bool} {xi xj : Int} {xA xB : Option Addr} {xn xc xm xd : Nat} {yb : Bool} {yi yj : Int} {yA yB : Option Addr} {yn yc ym yd : Nat}
  (hr : regionOk #[{ dst := some 72, op := Op.load 78 (Operand.tmp 6), type := 78, pos := "law.go:100", after := #[], guard := none }, { dst := some 73, op := Op.load 78 (Operand.tmp 7), type := 78, pos := "law.go:100", after := #[], guard := none }, { dst := some 74, op := Op.call { callee := Callee.value (Operand.func 66), args := #[Operand.tmp 72, Operand.tmp 73], argTypes := #[78, 78] }, type := 4, pos := "law.go:100", after := #[{ on := 0, ground := Ground.data }, { on := 1, ground := Ground.data }], guard := none }, { dst := some 75, op := Op.move (Operand.tmp 74), type := 4, pos := "law.go:100", after := #[{ on := 2, ground := Ground.data }, { on := 2, ground := Ground.chain }], guard := none }, { dst := some 76, op := Op.move (Operand.tmp 9), type := 68, pos := "law.go:100", after := #[{ on := 3, ground := Ground.guard }], guard := some (3, true) }, { dst := some 77, op := Op.indexAddr 68 (Operand.tmp 76) (Operand.const (Value.int IntKind.i64 0)), type := 0, pos := "law.go:100", after := #[{ on := 4, ground := Ground.data }, { on := 3, ground := Ground.guard }], guard := some (3, true) }, { dst := some 78, op := Op.load 78 (Operand.tmp 77), type := 78, pos := "law.go:100", after := #[{ on := 5, ground := Ground.data }, { on := 3, ground := Ground.guard }], guard := some (3, true) }, { dst := some 79, op := Op.move (Operand.tmp 9), type := 68, pos := "law.go:100", after := #[{ on := 3, ground := Ground.guard }], guard := some (3, true) }, { dst := some 80, op := Op.indexAddr 68 (Operand.tmp 79) (Operand.const (Value.int IntKind.i64 1)), type := 0, pos := "law.go:100", after := #[{ on := 7, ground := Ground.data }, { on := 3, ground := Ground.guard }], guard := some (3, true) }, { dst := some 81, op := Op.load 78 (Operand.tmp 80), type := 78, pos := "law.go:100", after := #[{ on := 8, ground := Ground.data }, { on := 3, ground := Ground.guard }], guard := some (3, true) }, { dst := some 82, op := Op.call { callee := Callee.value (Operand.func 66), args := #[Operand.tmp 78, Operand.tmp 81], argTypes := #[78, 78] }, type := 4, pos := "law.go:100", after := #[{ on := 6, ground := Ground.data }, { on := 9, ground := Ground.data }, { on := 3, ground := Ground.chain }, { on := 3, ground := Ground.guard }], guard := some (3, true) }, { dst := some 83, op := Op.unOp UnOp.not 4 (Operand.tmp 82), type := 4, pos := "law.go:100", after := #[{ on := 10, ground := Ground.data }, { on := 3, ground := Ground.guard }], guard := some (3, true) }, { dst := some 84, op := Op.pick (Operand.tmp 75) (Operand.tmp 83) (Operand.const (Value.bool false)), type := 4, pos := "law.go:100", after := #[{ on := 3, ground := Ground.data }, { on := 11, ground := Ground.data }], guard := none }] a.tmps.size = true)
  (hT9 : a.tmps.getD 9 undef = .slice (some ⟨g0, 0, none⟩) 3 cp)
  (hT6 : a.tmps.getD 6 undef = .pointer (some ⟨ga, 0, none⟩)) (hX6 : w.heap[ga]? = some (.cells #[.bool xb, .int .i64 xi, .slice xA xn xc, .int .i64 xj, .slice xB xm xd] 78 (0, 0)))
  (hT7 : a.tmps.getD 7 undef = .pointer (some ⟨gb, 0, none⟩)) (hX7 : w.heap[gb]? = some (.cells #[.bool yb, .int .i64 yi, .slice yA yn yc, .int .i64 yj, .slice yB ym yd] 78 (0, 0)))
  (hF2 : ∀ w1, Below w.heap.size w w1 → Calls Try.prog 66 #[.agg #[.bool xb, .int .i64 xi, .slice xA xn xc, .int .i64 xj, .slice xB xm xd], .agg #[.bool yb, .int .i64 yi, .slice yA yn yc, .int .i64 yj, .slice yB ym yd]] w1 fun e w2 => e = .returned (.bool false) ∧ Below w1.heap.size w1 w2)
  (hK : ∀ v w', Below w.heap.size w w' → v 12 = .bool false → Q .normal { tmps := layL [some 72, some 73, some 74, some 75, some 76, some 77, some 78, some 79, some 80, some 81, some 82, some 83, some 84] 0 v a.tmps, defers := a.defers } w') :
  (Code.region id #[{ dst := some 72, op := Op.load 78 (Operand.tmp 6), type := 78, pos := "law.go:100", after := #[], guard := none }, { dst := some 73, op := Op.load 78 (Operand.tmp 7), type := 78, pos := "law.go:100", after := #[], guard := none }, { dst := some 74, op := Op.call { callee := Callee.value (Operand.func 66), args := #[Operand.tmp 72, Operand.tmp 73], argTypes := #[78, 78] }, type := 4, pos := "law.go:100", after := #[{ on := 0, ground := Ground.data }, { on := 1, ground := Ground.data }], guard := none }, { dst := some 75, op := Op.move (Operand.tmp 74), type := 4, pos := "law.go:100", after := #[{ on := 2, ground := Ground.data }, { on := 2, ground := Ground.chain }], guard := none }, { dst := some 76, op := Op.move (Operand.tmp 9), type := 68, pos := "law.go:100", after := #[{ on := 3, ground := Ground.guard }], guard := some (3, true) }, { dst := some 77, op := Op.indexAddr 68 (Operand.tmp 76) (Operand.const (Value.int IntKind.i64 0)), type := 0, pos := "law.go:100", after := #[{ on := 4, ground := Ground.data }, { on := 3, ground := Ground.guard }], guard := some (3, true) }, { dst := some 78, op := Op.load 78 (Operand.tmp 77), type := 78, pos := "law.go:100", after := #[{ on := 5, ground := Ground.data }, { on := 3, ground := Ground.guard }], guard := some (3, true) }, { dst := some 79, op := Op.move (Operand.tmp 9), type := 68, pos := "law.go:100", after := #[{ on := 3, ground := Ground.guard }], guard := some (3, true) }, { dst := some 80, op := Op.indexAddr 68 (Operand.tmp 79) (Operand.const (Value.int IntKind.i64 1)), type := 0, pos := "law.go:100", after := #[{ on := 7, ground := Ground.data }, { on := 3, ground := Ground.guard }], guard := some (3, true) }, { dst := some 81, op := Op.load 78 (Operand.tmp 80), type := 78, pos := "law.go:100", after := #[{ on := 8, ground := Ground.data }, { on := 3, ground := Ground.guard }], guard := some (3, true) }, { dst := some 82, op := Op.call { callee := Callee.value (Operand.func 66), args := #[Operand.tmp 78, Operand.tmp 81], argTypes := #[78, 78] }, type := 4, pos := "law.go:100", after := #[{ on := 6, ground := Ground.data }, { on := 9, ground := Ground.data }, { on := 3, ground := Ground.chain }, { on := 3, ground := Ground.guard }], guard := some (3, true) }, { dst := some 83, op := Op.unOp UnOp.not 4 (Operand.tmp 82), type := 4, pos := "law.go:100", after := #[{ on := 10, ground := Ground.data }, { on := 3, ground := Ground.guard }], guard := some (3, true) }, { dst := some 84, op := Op.pick (Operand.tmp 75) (Operand.tmp 83) (Operand.const (Value.bool false)), type := 4, pos := "law.go:100", after := #[{ on := 3, ground := Ground.data }, { on := 11, ground := Ground.data }], guard := none }] true).wp Try.prog Q a w := by
 have hmx : Try.prog.follows .mixedOrders = true := by kernel_rfl
 refine region_detR 13 hmx hr (by kernel_rfl) ?_
 refine DetR.is (o := { dst := some 72, op := Op.load 78 (Operand.tmp 6), type := 78, pos := "law.go:100", after := #[], guard := none }) (u := ?ux35) rfl (by decide) (fun T w' hb hd hB K hK => ?sx35) ?rx35
 case sx35 =>
  have e6 := (hB 6 (by kernel_rfl)).trans hT6
  have q6_0 : w'.cell? ⟨ga, 0, none⟩ = some (.bool xb) := (yaa_ (kB_ hX6 hb) 0).trans rfl
  have q6_1 : w'.cell? ⟨ga, 1, none⟩ = some (.int .i64 xi) := (yaa_ (kB_ hX6 hb) 1).trans rfl
  have q6_2 : w'.cell? ⟨ga, 2, none⟩ = some (.slice xA xn xc) := (yaa_ (kB_ hX6 hb) 2).trans rfl
  have q6_3 : w'.cell? ⟨ga, 3, none⟩ = some (.int .i64 xj) := (yaa_ (kB_ hX6 hb) 3).trans rfl
  have q6_4 : w'.cell? ⟨ga, 4, none⟩ = some (.slice xB xm xd) := (yaa_ (kB_ hX6 hb) 4).trans rfl
  rw [if_pos (yac_ _ rfl)]
  clear hd hB
  go_simp
  exact hK _ (Below.refl _ _)
 refine DetR.is (o := { dst := some 73, op := Op.load 78 (Operand.tmp 7), type := 78, pos := "law.go:100", after := #[], guard := none }) (u := ?ux36) rfl (by decide) (fun T w' hb hd hB K hK => ?sx36) ?rx36
 case sx36 =>
  have e7 := (hB 7 (by kernel_rfl)).trans hT7
  have q7_0 : w'.cell? ⟨gb, 0, none⟩ = some (.bool yb) := (yaa_ (kB_ hX7 hb) 0).trans rfl
  have q7_1 : w'.cell? ⟨gb, 1, none⟩ = some (.int .i64 yi) := (yaa_ (kB_ hX7 hb) 1).trans rfl
  have q7_2 : w'.cell? ⟨gb, 2, none⟩ = some (.slice yA yn yc) := (yaa_ (kB_ hX7 hb) 2).trans rfl
  have q7_3 : w'.cell? ⟨gb, 3, none⟩ = some (.int .i64 yj) := (yaa_ (kB_ hX7 hb) 3).trans rfl
  have q7_4 : w'.cell? ⟨gb, 4, none⟩ = some (.slice yB ym yd) := (yaa_ (kB_ hX7 hb) 4).trans rfl
  rw [if_pos (yac_ _ rfl)]
  clear hd hB
  go_simp
  exact hK _ (Below.refl _ _)
 refine DetR.is (o := { dst := some 74, op := Op.call { callee := Callee.value (Operand.func 66), args := #[Operand.tmp 72, Operand.tmp 73], argTypes := #[78, 78] }, type := 4, pos := "law.go:100", after := #[{ on := 0, ground := Ground.data }, { on := 1, ground := Ground.data }], guard := none }) (u := .bool false) rfl (by decide) (fun T w' hb hd hB K hK => ?sx37) ?rx37
 case sx37 =>
  have e72 := hd 0 72 _ (by decide) (by kernel_rfl) rfl rfl
  replace e72 : T.getD 72 undef = _ := e72
  have e73 := hd 1 73 _ (by decide) (by kernel_rfl) rfl rfl
  replace e73 : T.getD 73 undef = _ := e73
  rw [if_pos (yac_ _ rfl)]
  have hcl := hF2 w' hb
  clear hd hB
  go_simp
  go_at_call 66
  refine hcl.mono ?_
  rintro e w2 ⟨rfl, h2⟩
  exact hK _ h2
 refine DetR.is (o := { dst := some 75, op := Op.move (Operand.tmp 74), type := 4, pos := "law.go:100", after := #[{ on := 2, ground := Ground.data }, { on := 2, ground := Ground.chain }], guard := none }) (u := .bool false) rfl (by decide) (fun T w' hb hd hB K hK => ?sx38) ?rx38
 case sx38 =>
  have e74 := hd 2 74 _ (by decide) (by kernel_rfl) rfl rfl
  replace e74 : T.getD 74 undef = _ := e74
  rw [if_pos (yac_ _ rfl)]
  clear hd hB
  go_simp
  exact hK _ (Below.refl _ _)
 refine DetR.is (o := { dst := some 76, op := Op.move (Operand.tmp 9), type := 68, pos := "law.go:100", after := #[{ on := 3, ground := Ground.guard }], guard := some (3, true) }) (u := ?ux39) rfl (by decide) (fun T w' hb hd hB K hK => ?sx39) ?rx39
 case sx39 =>
  have e9 := (hB 9 (by kernel_rfl)).trans hT9
  have eg := hd 3 75 _ (by decide) (by kernel_rfl) rfl rfl
  replace eg : T.getD 75 undef = .bool false := eg
  rw [if_neg (wanted_no 3 75 false rfl rfl eg)]
  exact hK _ (Below.refl _ _)
 refine DetR.is (o := { dst := some 77, op := Op.indexAddr 68 (Operand.tmp 76) (Operand.const (Value.int IntKind.i64 0)), type := 0, pos := "law.go:100", after := #[{ on := 4, ground := Ground.data }, { on := 3, ground := Ground.guard }], guard := some (3, true) }) (u := ?ux40) rfl (by decide) (fun T w' hb hd hB K hK => ?sx40) ?rx40
 case sx40 =>
  have e76 := hd 4 76 _ (by decide) (by kernel_rfl) rfl rfl
  replace e76 : T.getD 76 undef = _ := e76
  have eg := hd 3 75 _ (by decide) (by kernel_rfl) rfl rfl
  replace eg : T.getD 75 undef = .bool false := eg
  rw [if_neg (wanted_no 3 75 false rfl rfl eg)]
  exact hK _ (Below.refl _ _)
 refine DetR.is (o := { dst := some 78, op := Op.load 78 (Operand.tmp 77), type := 78, pos := "law.go:100", after := #[{ on := 5, ground := Ground.data }, { on := 3, ground := Ground.guard }], guard := some (3, true) }) (u := ?ux41) rfl (by decide) (fun T w' hb hd hB K hK => ?sx41) ?rx41
 case sx41 =>
  have e77 := hd 5 77 _ (by decide) (by kernel_rfl) rfl rfl
  replace e77 : T.getD 77 undef = _ := e77
  have eg := hd 3 75 _ (by decide) (by kernel_rfl) rfl rfl
  replace eg : T.getD 75 undef = .bool false := eg
  rw [if_neg (wanted_no 3 75 false rfl rfl eg)]
  exact hK _ (Below.refl _ _)
 refine DetR.is (o := { dst := some 79, op := Op.move (Operand.tmp 9), type := 68, pos := "law.go:100", after := #[{ on := 3, ground := Ground.guard }], guard := some (3, true) }) (u := ?ux42) rfl (by decide) (fun T w' hb hd hB K hK => ?sx42) ?rx42
 case sx42 =>
  have e9 := (hB 9 (by kernel_rfl)).trans hT9
  have eg := hd 3 75 _ (by decide) (by kernel_rfl) rfl rfl
  replace eg : T.getD 75 undef = .bool false := eg
  rw [if_neg (wanted_no 3 75 false rfl rfl eg)]
  exact hK _ (Below.refl _ _)
 refine DetR.is (o := { dst := some 80, op := Op.indexAddr 68 (Operand.tmp 79) (Operand.const (Value.int IntKind.i64 1)), type := 0, pos := "law.go:100", after := #[{ on := 7, ground := Ground.data }, { on := 3, ground := Ground.guard }], guard := some (3, true) }) (u := ?ux43) rfl (by decide) (fun T w' hb hd hB K hK => ?sx43) ?rx43
 case sx43 =>
  have e79 := hd 7 79 _ (by decide) (by kernel_rfl) rfl rfl
  replace e79 : T.getD 79 undef = _ := e79
  have eg := hd 3 75 _ (by decide) (by kernel_rfl) rfl rfl
  replace eg : T.getD 75 undef = .bool false := eg
  rw [if_neg (wanted_no 3 75 false rfl rfl eg)]
  exact hK _ (Below.refl _ _)
 refine DetR.is (o := { dst := some 81, op := Op.load 78 (Operand.tmp 80), type := 78, pos := "law.go:100", after := #[{ on := 8, ground := Ground.data }, { on := 3, ground := Ground.guard }], guard := some (3, true) }) (u := ?ux44) rfl (by decide) (fun T w' hb hd hB K hK => ?sx44) ?rx44
 case sx44 =>
  have e80 := hd 8 80 _ (by decide) (by kernel_rfl) rfl rfl
  replace e80 : T.getD 80 undef = _ := e80
  have eg := hd 3 75 _ (by decide) (by kernel_rfl) rfl rfl
  replace eg : T.getD 75 undef = .bool false := eg
  rw [if_neg (wanted_no 3 75 false rfl rfl eg)]
  exact hK _ (Below.refl _ _)
 refine DetR.is (o := { dst := some 82, op := Op.call { callee := Callee.value (Operand.func 66), args := #[Operand.tmp 78, Operand.tmp 81], argTypes := #[78, 78] }, type := 4, pos := "law.go:100", after := #[{ on := 6, ground := Ground.data }, { on := 9, ground := Ground.data }, { on := 3, ground := Ground.chain }, { on := 3, ground := Ground.guard }], guard := some (3, true) }) (u := ?ux45) rfl (by decide) (fun T w' hb hd hB K hK => ?sx45) ?rx45
 case sx45 =>
  have e78 := hd 6 78 _ (by decide) (by kernel_rfl) rfl rfl
  replace e78 : T.getD 78 undef = _ := e78
  have e81 := hd 9 81 _ (by decide) (by kernel_rfl) rfl rfl
  replace e81 : T.getD 81 undef = _ := e81
  have eg := hd 3 75 _ (by decide) (by kernel_rfl) rfl rfl
  replace eg : T.getD 75 undef = .bool false := eg
  rw [if_neg (wanted_no 3 75 false rfl rfl eg)]
  exact hK _ (Below.refl _ _)
 refine DetR.is (o := { dst := some 83, op := Op.unOp UnOp.not 4 (Operand.tmp 82), type := 4, pos := "law.go:100", after := #[{ on := 10, ground := Ground.data }, { on := 3, ground := Ground.guard }], guard := some (3, true) }) (u := ?ux46) rfl (by decide) (fun T w' hb hd hB K hK => ?sx46) ?rx46
 case sx46 =>
  have e82 := hd 10 82 _ (by decide) (by kernel_rfl) rfl rfl
  replace e82 : T.getD 82 undef = _ := e82
  have eg := hd 3 75 _ (by decide) (by kernel_rfl) rfl rfl
  replace eg : T.getD 75 undef = .bool false := eg
  rw [if_neg (wanted_no 3 75 false rfl rfl eg)]
  exact hK _ (Below.refl _ _)
 refine DetR.is (o := { dst := some 84, op := Op.pick (Operand.tmp 75) (Operand.tmp 83) (Operand.const (Value.bool false)), type := 4, pos := "law.go:100", after := #[{ on := 3, ground := Ground.data }, { on := 11, ground := Ground.data }], guard := none }) (u := .bool false) rfl (by decide) (fun T w' hb hd hB K hK => ?sx47) ?rx47
 case sx47 =>
  have e75 := hd 3 75 _ (by decide) (by kernel_rfl) rfl rfl
  replace e75 : T.getD 75 undef = _ := e75
  have e83 := hd 11 83 _ (by decide) (by kernel_rfl) rfl rfl
  replace e83 : T.getD 83 undef = _ := e83
  rw [if_pos (yac_ _ rfl)]
  clear hd hB
  go_simp
  exact hK _ (Below.refl _ _)
 refine DetR.done [some 72, some 73, some 74, some 75, some 76, some 77, some 78, some 79, some 80, some 81, some 82, some 83, some 84] (by kernel_rfl) rfl (by kernel_rfl) ?_
 intro v w' hb hv
 exact hK v w' hb (hv 12 _ (by decide) rfl)
set_option maxHeartbeats 4000000 in
set_option maxRecDepth 100000 in
theorem OrderRules_r15 {id : Nat} {a : Act} {w : World} {Q : Exit → Act → World → Prop} {ga gb gp gn gt : Nat} {b p0 n0 : Bool} {tl : List S30} {xb : Bool} {xi xj : Int} {xA xB : Option Addr} {xn xc xm xd : Nat} {yb : Bool} {yi yj : Int} {yA yB : Option Addr} {yn yc ym yd : Nat} {tb : Bool} {ti tj : Int} {tA tB : Option Addr} {tn tc tm td : Nat}
  (hr : regionOk #[{ dst := some 96, op := Op.load 78 (Operand.tmp 11), type := 78, pos := "law.go:107", after := #[], guard := none }, { dst := some 97, op := Op.load 78 (Operand.tmp 10), type := 78, pos := "law.go:107", after := #[], guard := none }, { dst := some 98, op := Op.call { callee := Callee.value (Operand.func 66), args := #[Operand.tmp 96, Operand.tmp 97], argTypes := #[78, 78] }, type := 4, pos := "law.go:107", after := #[{ on := 0, ground := Ground.data }, { on := 1, ground := Ground.data }], guard := none }, { dst := some 99, op := Op.move (Operand.tmp 98), type := 4, pos := "law.go:107", after := #[{ on := 2, ground := Ground.data }, { on := 2, ground := Ground.chain }], guard := none }, { dst := some 100, op := Op.load 78 (Operand.tmp 10), type := 78, pos := "law.go:107", after := #[{ on := 3, ground := Ground.guard }], guard := some (3, true) }, { dst := some 101, op := Op.load 78 (Operand.tmp 11), type := 78, pos := "law.go:107", after := #[{ on := 3, ground := Ground.guard }], guard := some (3, true) }, { dst := some 102, op := Op.call { callee := Callee.value (Operand.func 66), args := #[Operand.tmp 100, Operand.tmp 101], argTypes := #[78, 78] }, type := 4, pos := "law.go:107", after := #[{ on := 4, ground := Ground.data }, { on := 5, ground := Ground.data }, { on := 3, ground := Ground.chain }, { on := 3, ground := Ground.guard }], guard := some (3, true) }, { dst := some 103, op := Op.unOp UnOp.not 4 (Operand.tmp 102), type := 4, pos := "law.go:107", after := #[{ on := 6, ground := Ground.data }, { on := 3, ground := Ground.guard }], guard := some (3, true) }, { dst := some 104, op := Op.pick (Operand.tmp 99) (Operand.tmp 103) (Operand.const (Value.bool false)), type := 4, pos := "law.go:107", after := #[{ on := 3, ground := Ground.data }, { on := 7, ground := Ground.data }], guard := none }, { dst := some 105, op := Op.move (Operand.tmp 104), type := 4, pos := "law.go:107", after := #[{ on := 8, ground := Ground.data }, { on := 6, ground := Ground.chain }], guard := none }, { dst := some 106, op := Op.load 78 (Operand.tmp 6), type := 78, pos := "law.go:107", after := #[{ on := 9, ground := Ground.guard }], guard := some (9, true) }, { dst := some 107, op := Op.load 78 (Operand.tmp 7), type := 78, pos := "law.go:107", after := #[{ on := 9, ground := Ground.guard }], guard := some (9, true) }, { dst := some 108, op := Op.call { callee := Callee.value (Operand.func 66), args := #[Operand.tmp 106, Operand.tmp 107], argTypes := #[78, 78] }, type := 4, pos := "law.go:107", after := #[{ on := 10, ground := Ground.data }, { on := 11, ground := Ground.data }, { on := 9, ground := Ground.chain }, { on := 9, ground := Ground.guard }], guard := some (9, true) }, { dst := some 109, op := Op.load 78 (Operand.tmp 6), type := 78, pos := "law.go:107", after := #[{ on := 9, ground := Ground.guard }], guard := some (9, true) }, { dst := some 110, op := Op.load 78 (Operand.tmp 12), type := 78, pos := "law.go:107", after := #[{ on := 9, ground := Ground.guard }], guard := some (9, true) }, { dst := some 111, op := Op.call { callee := Callee.value (Operand.func 66), args := #[Operand.tmp 109, Operand.tmp 110], argTypes := #[78, 78] }, type := 4, pos := "law.go:107", after := #[{ on := 13, ground := Ground.data }, { on := 14, ground := Ground.data }, { on := 12, ground := Ground.chain }, { on := 9, ground := Ground.guard }], guard := some (9, true) }, { dst := some 112, op := Op.binOp BinOp.eql 4 (Operand.tmp 108) (Operand.tmp 111) 4, type := 4, pos := "law.go:107", after := #[{ on := 12, ground := Ground.data }, { on := 15, ground := Ground.data }, { on := 9, ground := Ground.guard }], guard := some (9, true) }, { dst := some 113, op := Op.pick (Operand.tmp 105) (Operand.tmp 112) (Operand.const (Value.bool false)), type := 4, pos := "law.go:107", after := #[{ on := 9, ground := Ground.data }, { on := 16, ground := Ground.data }], guard := none }, { dst := some 114, op := Op.move (Operand.tmp 113), type := 4, pos := "law.go:107", after := #[{ on := 17, ground := Ground.data }, { on := 15, ground := Ground.chain }], guard := none }, { dst := some 115, op := Op.load 78 (Operand.tmp 11), type := 78, pos := "law.go:107", after := #[{ on := 18, ground := Ground.guard }], guard := some (18, true) }, { dst := some 116, op := Op.call { callee := Callee.value (Operand.func 63), args := #[Operand.tmp 115], argTypes := #[78] }, type := 28, pos := "law.go:107", after := #[{ on := 19, ground := Ground.data }, { on := 18, ground := Ground.chain }, { on := 18, ground := Ground.guard }], guard := some (18, true) }, { dst := some 117, op := Op.call { callee := Callee.value (Operand.func 62), args := #[Operand.tmp 116, Operand.const (Value.slice none 0 0)], argTypes := #[28, 28] }, type := 4, pos := "law.go:107", after := #[{ on := 20, ground := Ground.data }, { on := 20, ground := Ground.chain }, { on := 18, ground := Ground.guard }], guard := some (18, true) }, { dst := some 118, op := Op.pick (Operand.tmp 114) (Operand.tmp 117) (Operand.const (Value.bool false)), type := 4, pos := "law.go:107", after := #[{ on := 18, ground := Ground.data }, { on := 21, ground := Ground.data }], guard := none }, { dst := some 119, op := Op.move (Operand.tmp 118), type := 4, pos := "law.go:107", after := #[{ on := 22, ground := Ground.data }, { on := 21, ground := Ground.chain }], guard := none }, { dst := some 120, op := Op.call { callee := Callee.value (Operand.func 62), args := #[Operand.const (Value.slice none 0 0), Operand.const (Value.slice none 0 0)], argTypes := #[28, 28] }, type := 4, pos := "law.go:107", after := #[{ on := 23, ground := Ground.chain }, { on := 23, ground := Ground.guard }], guard := some (23, true) }, { dst := some 121, op := Op.unOp UnOp.not 4 (Operand.tmp 120), type := 4, pos := "law.go:107", after := #[{ on := 24, ground := Ground.data }, { on := 23, ground := Ground.guard }], guard := some (23, true) }, { dst := some 122, op := Op.pick (Operand.tmp 119) (Operand.tmp 121) (Operand.const (Value.bool false)), type := 4, pos := "law.go:107", after := #[{ on := 23, ground := Ground.data }, { on := 25, ground := Ground.data }], guard := none }, { dst := some 4, op := Op.assign (Operand.tmp 122), type := 4, pos := "law.go:107", after := #[{ on := 26, ground := Ground.data }, { on := 24, ground := Ground.chain }, { on := 0, ground := Ground.phase }, { on := 1, ground := Ground.phase }, { on := 2, ground := Ground.phase }, { on := 3, ground := Ground.phase }, { on := 4, ground := Ground.phase }, { on := 5, ground := Ground.phase }, { on := 6, ground := Ground.phase }, { on := 7, ground := Ground.phase }, { on := 8, ground := Ground.phase }, { on := 9, ground := Ground.phase }, { on := 10, ground := Ground.phase }, { on := 11, ground := Ground.phase }, { on := 12, ground := Ground.phase }, { on := 13, ground := Ground.phase }, { on := 14, ground := Ground.phase }, { on := 15, ground := Ground.phase }, { on := 16, ground := Ground.phase }, { on := 17, ground := Ground.phase }, { on := 18, ground := Ground.phase }, { on := 19, ground := Ground.phase }, { on := 20, ground := Ground.phase }, { on := 21, ground := Ground.phase }, { on := 22, ground := Ground.phase }, { on := 23, ground := Ground.phase }, { on := 24, ground := Ground.phase }, { on := 25, ground := Ground.phase }, { on := 26, ground := Ground.phase }], guard := none }] a.tmps.size = true)
  (hT6 : a.tmps.getD 6 undef = .pointer (some ⟨ga, 0, none⟩)) (hX6 : w.heap[ga]? = some (.cells #[.bool xb, .int .i64 xi, .slice xA xn xc, .int .i64 xj, .slice xB xm xd] 78 (0, 0)))
  (hT7 : a.tmps.getD 7 undef = .pointer (some ⟨gb, 0, none⟩)) (hX7 : w.heap[gb]? = some (.cells #[.bool yb, .int .i64 yi, .slice yA yn yc, .int .i64 yj, .slice yB ym yd] 78 (0, 0)))
  (hT10 : a.tmps.getD 10 undef = .pointer (some ⟨gp, 0, none⟩)) (hX10 : w.heap[gp]? = some (.cells #[.bool p0, .int .i64 xi, .slice xA xn xc, .int .i64 xj, .slice xB xm xd] 78 (0, 0)))
  (hT11 : a.tmps.getD 11 undef = .pointer (some ⟨gn, 0, none⟩)) (hX11 : w.heap[gn]? = some (.cells #[.bool n0, .int .i64 xi, .slice xA xn xc, .int .i64 xj, .slice xB xm xd] 78 (0, 0)))
  (hT12 : a.tmps.getD 12 undef = .pointer (some ⟨gt, 0, none⟩)) (hX12 : w.heap[gt]? = some (.cells #[.bool tb, .int .i64 ti, .slice tA tn tc, .int .i64 tj, .slice tB tm td] 78 (0, 0)))
  (hF2 : ∀ w1, Below w.heap.size w w1 → Calls Try.prog 66 #[.agg #[.bool n0, .int .i64 xi, .slice xA xn xc, .int .i64 xj, .slice xB xm xd], .agg #[.bool p0, .int .i64 xi, .slice xA xn xc, .int .i64 xj, .slice xB xm xd]] w1 fun e w2 => e = .returned (.bool true) ∧ Below w1.heap.size w1 w2)
  (hF6 : ∀ w1, Below w.heap.size w w1 → Calls Try.prog 66 #[.agg #[.bool p0, .int .i64 xi, .slice xA xn xc, .int .i64 xj, .slice xB xm xd], .agg #[.bool n0, .int .i64 xi, .slice xA xn xc, .int .i64 xj, .slice xB xm xd]] w1 fun e w2 => e = .returned (.bool false) ∧ Below w1.heap.size w1 w2)
  (hF12 : ∀ w1, Below w.heap.size w w1 → Calls Try.prog 66 #[.agg #[.bool xb, .int .i64 xi, .slice xA xn xc, .int .i64 xj, .slice xB xm xd], .agg #[.bool yb, .int .i64 yi, .slice yA yn yc, .int .i64 yj, .slice yB ym yd]] w1 fun e w2 => e = .returned (.bool b) ∧ Below w1.heap.size w1 w2)
  (hF15 : ∀ w1, Below w.heap.size w w1 → Calls Try.prog 66 #[.agg #[.bool xb, .int .i64 xi, .slice xA xn xc, .int .i64 xj, .slice xB xm xd], .agg #[.bool tb, .int .i64 ti, .slice tA tn tc, .int .i64 tj, .slice tB tm td]] w1 fun e w2 => e = .returned (.bool b) ∧ Below w1.heap.size w1 w2)
  (hF20 : ∀ w1, Below w.heap.size w w1 → Calls Try.prog 63 #[.agg #[.bool n0, .int .i64 xi, .slice xA xn xc, .int .i64 xj, .slice xB xm xd]] w1 fun e w2 => ∃ u, e = .returned u ∧ RowTold k30 tl u w2 ∧ Below w1.heap.size w1 w2)
  (hF24 : ∀ w1, Below w.heap.size w w1 → Calls Try.prog 62 #[.slice none 0 0, .slice none 0 0] w1 fun e w2 => e = .returned (.bool false) ∧ Below w1.heap.size w1 w2)
  (hM : ∀ (w1 : World) (A : Option Addr) (c : Nat), Below w.heap.size w w1 → tl.length ≤ c → k30.C w1 A tl.length tl → Calls Try.prog 62 #[.slice A tl.length c, .slice none 0 0] w1 fun e w2 => e = .returned (.bool true) ∧ Below w1.heap.size w1 w2)
  (hK : ∀ v w', Below w.heap.size w w' → v 27 = .bool true → Q .normal { tmps := layL [some 96, some 97, some 98, some 99, some 100, some 101, some 102, some 103, some 104, some 105, some 106, some 107, some 108, some 109, some 110, some 111, some 112, some 113, some 114, some 115, some 116, some 117, some 118, some 119, some 120, some 121, some 122, some 4] 0 v a.tmps, defers := a.defers } w') :
  (Code.region id #[{ dst := some 96, op := Op.load 78 (Operand.tmp 11), type := 78, pos := "law.go:107", after := #[], guard := none }, { dst := some 97, op := Op.load 78 (Operand.tmp 10), type := 78, pos := "law.go:107", after := #[], guard := none }, { dst := some 98, op := Op.call { callee := Callee.value (Operand.func 66), args := #[Operand.tmp 96, Operand.tmp 97], argTypes := #[78, 78] }, type := 4, pos := "law.go:107", after := #[{ on := 0, ground := Ground.data }, { on := 1, ground := Ground.data }], guard := none }, { dst := some 99, op := Op.move (Operand.tmp 98), type := 4, pos := "law.go:107", after := #[{ on := 2, ground := Ground.data }, { on := 2, ground := Ground.chain }], guard := none }, { dst := some 100, op := Op.load 78 (Operand.tmp 10), type := 78, pos := "law.go:107", after := #[{ on := 3, ground := Ground.guard }], guard := some (3, true) }, { dst := some 101, op := Op.load 78 (Operand.tmp 11), type := 78, pos := "law.go:107", after := #[{ on := 3, ground := Ground.guard }], guard := some (3, true) }, { dst := some 102, op := Op.call { callee := Callee.value (Operand.func 66), args := #[Operand.tmp 100, Operand.tmp 101], argTypes := #[78, 78] }, type := 4, pos := "law.go:107", after := #[{ on := 4, ground := Ground.data }, { on := 5, ground := Ground.data }, { on := 3, ground := Ground.chain }, { on := 3, ground := Ground.guard }], guard := some (3, true) }, { dst := some 103, op := Op.unOp UnOp.not 4 (Operand.tmp 102), type := 4, pos := "law.go:107", after := #[{ on := 6, ground := Ground.data }, { on := 3, ground := Ground.guard }], guard := some (3, true) }, { dst := some 104, op := Op.pick (Operand.tmp 99) (Operand.tmp 103) (Operand.const (Value.bool false)), type := 4, pos := "law.go:107", after := #[{ on := 3, ground := Ground.data }, { on := 7, ground := Ground.data }], guard := none }, { dst := some 105, op := Op.move (Operand.tmp 104), type := 4, pos := "law.go:107", after := #[{ on := 8, ground := Ground.data }, { on := 6, ground := Ground.chain }], guard := none }, { dst := some 106, op := Op.load 78 (Operand.tmp 6), type := 78, pos := "law.go:107", after := #[{ on := 9, ground := Ground.guard }], guard := some (9, true) }, { dst := some 107, op := Op.load 78 (Operand.tmp 7), type := 78, pos := "law.go:107", after := #[{ on := 9, ground := Ground.guard }], guard := some (9, true) }, { dst := some 108, op := Op.call { callee := Callee.value (Operand.func 66), args := #[Operand.tmp 106, Operand.tmp 107], argTypes := #[78, 78] }, type := 4, pos := "law.go:107", after := #[{ on := 10, ground := Ground.data }, { on := 11, ground := Ground.data }, { on := 9, ground := Ground.chain }, { on := 9, ground := Ground.guard }], guard := some (9, true) }, { dst := some 109, op := Op.load 78 (Operand.tmp 6), type := 78, pos := "law.go:107", after := #[{ on := 9, ground := Ground.guard }], guard := some (9, true) }, { dst := some 110, op := Op.load 78 (Operand.tmp 12), type := 78, pos := "law.go:107", after := #[{ on := 9, ground := Ground.guard }], guard := some (9, true) }, { dst := some 111, op := Op.call { callee := Callee.value (Operand.func 66), args := #[Operand.tmp 109, Operand.tmp 110], argTypes := #[78, 78] }, type := 4, pos := "law.go:107", after := #[{ on := 13, ground := Ground.data }, { on := 14, ground := Ground.data }, { on := 12, ground := Ground.chain }, { on := 9, ground := Ground.guard }], guard := some (9, true) }, { dst := some 112, op := Op.binOp BinOp.eql 4 (Operand.tmp 108) (Operand.tmp 111) 4, type := 4, pos := "law.go:107", after := #[{ on := 12, ground := Ground.data }, { on := 15, ground := Ground.data }, { on := 9, ground := Ground.guard }], guard := some (9, true) }, { dst := some 113, op := Op.pick (Operand.tmp 105) (Operand.tmp 112) (Operand.const (Value.bool false)), type := 4, pos := "law.go:107", after := #[{ on := 9, ground := Ground.data }, { on := 16, ground := Ground.data }], guard := none }, { dst := some 114, op := Op.move (Operand.tmp 113), type := 4, pos := "law.go:107", after := #[{ on := 17, ground := Ground.data }, { on := 15, ground := Ground.chain }], guard := none }, { dst := some 115, op := Op.load 78 (Operand.tmp 11), type := 78, pos := "law.go:107", after := #[{ on := 18, ground := Ground.guard }], guard := some (18, true) }, { dst := some 116, op := Op.call { callee := Callee.value (Operand.func 63), args := #[Operand.tmp 115], argTypes := #[78] }, type := 28, pos := "law.go:107", after := #[{ on := 19, ground := Ground.data }, { on := 18, ground := Ground.chain }, { on := 18, ground := Ground.guard }], guard := some (18, true) }, { dst := some 117, op := Op.call { callee := Callee.value (Operand.func 62), args := #[Operand.tmp 116, Operand.const (Value.slice none 0 0)], argTypes := #[28, 28] }, type := 4, pos := "law.go:107", after := #[{ on := 20, ground := Ground.data }, { on := 20, ground := Ground.chain }, { on := 18, ground := Ground.guard }], guard := some (18, true) }, { dst := some 118, op := Op.pick (Operand.tmp 114) (Operand.tmp 117) (Operand.const (Value.bool false)), type := 4, pos := "law.go:107", after := #[{ on := 18, ground := Ground.data }, { on := 21, ground := Ground.data }], guard := none }, { dst := some 119, op := Op.move (Operand.tmp 118), type := 4, pos := "law.go:107", after := #[{ on := 22, ground := Ground.data }, { on := 21, ground := Ground.chain }], guard := none }, { dst := some 120, op := Op.call { callee := Callee.value (Operand.func 62), args := #[Operand.const (Value.slice none 0 0), Operand.const (Value.slice none 0 0)], argTypes := #[28, 28] }, type := 4, pos := "law.go:107", after := #[{ on := 23, ground := Ground.chain }, { on := 23, ground := Ground.guard }], guard := some (23, true) }, { dst := some 121, op := Op.unOp UnOp.not 4 (Operand.tmp 120), type := 4, pos := "law.go:107", after := #[{ on := 24, ground := Ground.data }, { on := 23, ground := Ground.guard }], guard := some (23, true) }, { dst := some 122, op := Op.pick (Operand.tmp 119) (Operand.tmp 121) (Operand.const (Value.bool false)), type := 4, pos := "law.go:107", after := #[{ on := 23, ground := Ground.data }, { on := 25, ground := Ground.data }], guard := none }, { dst := some 4, op := Op.assign (Operand.tmp 122), type := 4, pos := "law.go:107", after := #[{ on := 26, ground := Ground.data }, { on := 24, ground := Ground.chain }, { on := 0, ground := Ground.phase }, { on := 1, ground := Ground.phase }, { on := 2, ground := Ground.phase }, { on := 3, ground := Ground.phase }, { on := 4, ground := Ground.phase }, { on := 5, ground := Ground.phase }, { on := 6, ground := Ground.phase }, { on := 7, ground := Ground.phase }, { on := 8, ground := Ground.phase }, { on := 9, ground := Ground.phase }, { on := 10, ground := Ground.phase }, { on := 11, ground := Ground.phase }, { on := 12, ground := Ground.phase }, { on := 13, ground := Ground.phase }, { on := 14, ground := Ground.phase }, { on := 15, ground := Ground.phase }, { on := 16, ground := Ground.phase }, { on := 17, ground := Ground.phase }, { on := 18, ground := Ground.phase }, { on := 19, ground := Ground.phase }, { on := 20, ground := Ground.phase }, { on := 21, ground := Ground.phase }, { on := 22, ground := Ground.phase }, { on := 23, ground := Ground.phase }, { on := 24, ground := Ground.phase }, { on := 25, ground := Ground.phase }, { on := 26, ground := Ground.phase }], guard := none }] true).wp Try.prog Q a w := by
 have hmx : Try.prog.follows .mixedOrders = true := by kernel_rfl
 refine region_detR 28 hmx hr (by kernel_rfl) ?_
 refine DetR.is (o := { dst := some 96, op := Op.load 78 (Operand.tmp 11), type := 78, pos := "law.go:107", after := #[], guard := none }) (u := ?ux48) rfl (by decide) (fun T w' hb hd hB K hK => ?sx48) ?rx48
 case sx48 =>
  have e11 := (hB 11 (by kernel_rfl)).trans hT11
  have q11_0 : w'.cell? ⟨gn, 0, none⟩ = some (.bool n0) := (yaa_ (kB_ hX11 hb) 0).trans rfl
  have q11_1 : w'.cell? ⟨gn, 1, none⟩ = some (.int .i64 xi) := (yaa_ (kB_ hX11 hb) 1).trans rfl
  have q11_2 : w'.cell? ⟨gn, 2, none⟩ = some (.slice xA xn xc) := (yaa_ (kB_ hX11 hb) 2).trans rfl
  have q11_3 : w'.cell? ⟨gn, 3, none⟩ = some (.int .i64 xj) := (yaa_ (kB_ hX11 hb) 3).trans rfl
  have q11_4 : w'.cell? ⟨gn, 4, none⟩ = some (.slice xB xm xd) := (yaa_ (kB_ hX11 hb) 4).trans rfl
  rw [if_pos (yac_ _ rfl)]
  clear hd hB
  go_simp
  exact hK _ (Below.refl _ _)
 refine DetR.is (o := { dst := some 97, op := Op.load 78 (Operand.tmp 10), type := 78, pos := "law.go:107", after := #[], guard := none }) (u := ?ux49) rfl (by decide) (fun T w' hb hd hB K hK => ?sx49) ?rx49
 case sx49 =>
  have e10 := (hB 10 (by kernel_rfl)).trans hT10
  have q10_0 : w'.cell? ⟨gp, 0, none⟩ = some (.bool p0) := (yaa_ (kB_ hX10 hb) 0).trans rfl
  have q10_1 : w'.cell? ⟨gp, 1, none⟩ = some (.int .i64 xi) := (yaa_ (kB_ hX10 hb) 1).trans rfl
  have q10_2 : w'.cell? ⟨gp, 2, none⟩ = some (.slice xA xn xc) := (yaa_ (kB_ hX10 hb) 2).trans rfl
  have q10_3 : w'.cell? ⟨gp, 3, none⟩ = some (.int .i64 xj) := (yaa_ (kB_ hX10 hb) 3).trans rfl
  have q10_4 : w'.cell? ⟨gp, 4, none⟩ = some (.slice xB xm xd) := (yaa_ (kB_ hX10 hb) 4).trans rfl
  rw [if_pos (yac_ _ rfl)]
  clear hd hB
  go_simp
  exact hK _ (Below.refl _ _)
 refine DetR.is (o := { dst := some 98, op := Op.call { callee := Callee.value (Operand.func 66), args := #[Operand.tmp 96, Operand.tmp 97], argTypes := #[78, 78] }, type := 4, pos := "law.go:107", after := #[{ on := 0, ground := Ground.data }, { on := 1, ground := Ground.data }], guard := none }) (u := ?ux50) rfl (by decide) (fun T w' hb hd hB K hK => ?sx50) ?rx50
 case sx50 =>
  have e96 := hd 0 96 _ (by decide) (by kernel_rfl) rfl rfl
  replace e96 : T.getD 96 undef = _ := e96
  have e97 := hd 1 97 _ (by decide) (by kernel_rfl) rfl rfl
  replace e97 : T.getD 97 undef = _ := e97
  rw [if_pos (yac_ _ rfl)]
  have hcl := hF2 w' hb
  clear hd hB
  go_simp
  go_at_call 66
  refine hcl.mono ?_
  rintro e w2 ⟨rfl, h2⟩
  exact hK _ h2
 refine DetR.is (o := { dst := some 99, op := Op.move (Operand.tmp 98), type := 4, pos := "law.go:107", after := #[{ on := 2, ground := Ground.data }, { on := 2, ground := Ground.chain }], guard := none }) (u := .bool true) rfl (by decide) (fun T w' hb hd hB K hK => ?sx51) ?rx51
 case sx51 =>
  have e98 := hd 2 98 _ (by decide) (by kernel_rfl) rfl rfl
  replace e98 : T.getD 98 undef = _ := e98
  rw [if_pos (yac_ _ rfl)]
  clear hd hB
  go_simp
  exact hK _ (Below.refl _ _)
 refine DetR.is (o := { dst := some 100, op := Op.load 78 (Operand.tmp 10), type := 78, pos := "law.go:107", after := #[{ on := 3, ground := Ground.guard }], guard := some (3, true) }) (u := ?ux52) rfl (by decide) (fun T w' hb hd hB K hK => ?sx52) ?rx52
 case sx52 =>
  have e10 := (hB 10 (by kernel_rfl)).trans hT10
  have q10_0 : w'.cell? ⟨gp, 0, none⟩ = some (.bool p0) := (yaa_ (kB_ hX10 hb) 0).trans rfl
  have q10_1 : w'.cell? ⟨gp, 1, none⟩ = some (.int .i64 xi) := (yaa_ (kB_ hX10 hb) 1).trans rfl
  have q10_2 : w'.cell? ⟨gp, 2, none⟩ = some (.slice xA xn xc) := (yaa_ (kB_ hX10 hb) 2).trans rfl
  have q10_3 : w'.cell? ⟨gp, 3, none⟩ = some (.int .i64 xj) := (yaa_ (kB_ hX10 hb) 3).trans rfl
  have q10_4 : w'.cell? ⟨gp, 4, none⟩ = some (.slice xB xm xd) := (yaa_ (kB_ hX10 hb) 4).trans rfl
  have eg := hd 3 99 _ (by decide) (by kernel_rfl) rfl rfl
  replace eg : T.getD 99 undef = .bool true := eg
  rw [if_pos (wanted_yes 3 99 true rfl rfl eg)]
  clear eg
  clear hd hB
  go_simp
  exact hK _ (Below.refl _ _)
 refine DetR.is (o := { dst := some 101, op := Op.load 78 (Operand.tmp 11), type := 78, pos := "law.go:107", after := #[{ on := 3, ground := Ground.guard }], guard := some (3, true) }) (u := ?ux53) rfl (by decide) (fun T w' hb hd hB K hK => ?sx53) ?rx53
 case sx53 =>
  have e11 := (hB 11 (by kernel_rfl)).trans hT11
  have q11_0 : w'.cell? ⟨gn, 0, none⟩ = some (.bool n0) := (yaa_ (kB_ hX11 hb) 0).trans rfl
  have q11_1 : w'.cell? ⟨gn, 1, none⟩ = some (.int .i64 xi) := (yaa_ (kB_ hX11 hb) 1).trans rfl
  have q11_2 : w'.cell? ⟨gn, 2, none⟩ = some (.slice xA xn xc) := (yaa_ (kB_ hX11 hb) 2).trans rfl
  have q11_3 : w'.cell? ⟨gn, 3, none⟩ = some (.int .i64 xj) := (yaa_ (kB_ hX11 hb) 3).trans rfl
  have q11_4 : w'.cell? ⟨gn, 4, none⟩ = some (.slice xB xm xd) := (yaa_ (kB_ hX11 hb) 4).trans rfl
  have eg := hd 3 99 _ (by decide) (by kernel_rfl) rfl rfl
  replace eg : T.getD 99 undef = .bool true := eg
  rw [if_pos (wanted_yes 3 99 true rfl rfl eg)]
  clear eg
  clear hd hB
  go_simp
  exact hK _ (Below.refl _ _)
 refine DetR.is (o := { dst := some 102, op := Op.call { callee := Callee.value (Operand.func 66), args := #[Operand.tmp 100, Operand.tmp 101], argTypes := #[78, 78] }, type := 4, pos := "law.go:107", after := #[{ on := 4, ground := Ground.data }, { on := 5, ground := Ground.data }, { on := 3, ground := Ground.chain }, { on := 3, ground := Ground.guard }], guard := some (3, true) }) (u := ?ux54) rfl (by decide) (fun T w' hb hd hB K hK => ?sx54) ?rx54
 case sx54 =>
  have e100 := hd 4 100 _ (by decide) (by kernel_rfl) rfl rfl
  replace e100 : T.getD 100 undef = _ := e100
  have e101 := hd 5 101 _ (by decide) (by kernel_rfl) rfl rfl
  replace e101 : T.getD 101 undef = _ := e101
  have eg := hd 3 99 _ (by decide) (by kernel_rfl) rfl rfl
  replace eg : T.getD 99 undef = .bool true := eg
  rw [if_pos (wanted_yes 3 99 true rfl rfl eg)]
  clear eg
  have hcl := hF6 w' hb
  clear hd hB
  go_simp
  go_at_call 66
  refine hcl.mono ?_
  rintro e w2 ⟨rfl, h2⟩
  exact hK _ h2
 refine DetR.is (o := { dst := some 103, op := Op.unOp UnOp.not 4 (Operand.tmp 102), type := 4, pos := "law.go:107", after := #[{ on := 6, ground := Ground.data }, { on := 3, ground := Ground.guard }], guard := some (3, true) }) (u := .bool true) rfl (by decide) (fun T w' hb hd hB K hK => ?sx55) ?rx55
 case sx55 =>
  have e102 := hd 6 102 _ (by decide) (by kernel_rfl) rfl rfl
  replace e102 : T.getD 102 undef = _ := e102
  have eg := hd 3 99 _ (by decide) (by kernel_rfl) rfl rfl
  replace eg : T.getD 99 undef = .bool true := eg
  rw [if_pos (wanted_yes 3 99 true rfl rfl eg)]
  clear eg
  clear hd hB
  go_simp
  exact hK _ (Below.refl _ _)
 refine DetR.is (o := { dst := some 104, op := Op.pick (Operand.tmp 99) (Operand.tmp 103) (Operand.const (Value.bool false)), type := 4, pos := "law.go:107", after := #[{ on := 3, ground := Ground.data }, { on := 7, ground := Ground.data }], guard := none }) (u := .bool true) rfl (by decide) (fun T w' hb hd hB K hK => ?sx56) ?rx56
 case sx56 =>
  have e99 := hd 3 99 _ (by decide) (by kernel_rfl) rfl rfl
  replace e99 : T.getD 99 undef = _ := e99
  have e103 := hd 7 103 _ (by decide) (by kernel_rfl) rfl rfl
  replace e103 : T.getD 103 undef = _ := e103
  rw [if_pos (yac_ _ rfl)]
  clear hd hB
  go_simp
  exact hK _ (Below.refl _ _)
 refine DetR.is (o := { dst := some 105, op := Op.move (Operand.tmp 104), type := 4, pos := "law.go:107", after := #[{ on := 8, ground := Ground.data }, { on := 6, ground := Ground.chain }], guard := none }) (u := .bool true) rfl (by decide) (fun T w' hb hd hB K hK => ?sx57) ?rx57
 case sx57 =>
  have e104 := hd 8 104 _ (by decide) (by kernel_rfl) rfl rfl
  replace e104 : T.getD 104 undef = _ := e104
  rw [if_pos (yac_ _ rfl)]
  clear hd hB
  go_simp
  exact hK _ (Below.refl _ _)
 refine DetR.is (o := { dst := some 106, op := Op.load 78 (Operand.tmp 6), type := 78, pos := "law.go:107", after := #[{ on := 9, ground := Ground.guard }], guard := some (9, true) }) (u := ?ux58) rfl (by decide) (fun T w' hb hd hB K hK => ?sx58) ?rx58
 case sx58 =>
  have e6 := (hB 6 (by kernel_rfl)).trans hT6
  have q6_0 : w'.cell? ⟨ga, 0, none⟩ = some (.bool xb) := (yaa_ (kB_ hX6 hb) 0).trans rfl
  have q6_1 : w'.cell? ⟨ga, 1, none⟩ = some (.int .i64 xi) := (yaa_ (kB_ hX6 hb) 1).trans rfl
  have q6_2 : w'.cell? ⟨ga, 2, none⟩ = some (.slice xA xn xc) := (yaa_ (kB_ hX6 hb) 2).trans rfl
  have q6_3 : w'.cell? ⟨ga, 3, none⟩ = some (.int .i64 xj) := (yaa_ (kB_ hX6 hb) 3).trans rfl
  have q6_4 : w'.cell? ⟨ga, 4, none⟩ = some (.slice xB xm xd) := (yaa_ (kB_ hX6 hb) 4).trans rfl
  have eg := hd 9 105 _ (by decide) (by kernel_rfl) rfl rfl
  replace eg : T.getD 105 undef = .bool true := eg
  rw [if_pos (wanted_yes 9 105 true rfl rfl eg)]
  clear eg
  clear hd hB
  go_simp
  exact hK _ (Below.refl _ _)
 refine DetR.is (o := { dst := some 107, op := Op.load 78 (Operand.tmp 7), type := 78, pos := "law.go:107", after := #[{ on := 9, ground := Ground.guard }], guard := some (9, true) }) (u := ?ux59) rfl (by decide) (fun T w' hb hd hB K hK => ?sx59) ?rx59
 case sx59 =>
  have e7 := (hB 7 (by kernel_rfl)).trans hT7
  have q7_0 : w'.cell? ⟨gb, 0, none⟩ = some (.bool yb) := (yaa_ (kB_ hX7 hb) 0).trans rfl
  have q7_1 : w'.cell? ⟨gb, 1, none⟩ = some (.int .i64 yi) := (yaa_ (kB_ hX7 hb) 1).trans rfl
  have q7_2 : w'.cell? ⟨gb, 2, none⟩ = some (.slice yA yn yc) := (yaa_ (kB_ hX7 hb) 2).trans rfl
  have q7_3 : w'.cell? ⟨gb, 3, none⟩ = some (.int .i64 yj) := (yaa_ (kB_ hX7 hb) 3).trans rfl
  have q7_4 : w'.cell? ⟨gb, 4, none⟩ = some (.slice yB ym yd) := (yaa_ (kB_ hX7 hb) 4).trans rfl
  have eg := hd 9 105 _ (by decide) (by kernel_rfl) rfl rfl
  replace eg : T.getD 105 undef = .bool true := eg
  rw [if_pos (wanted_yes 9 105 true rfl rfl eg)]
  clear eg
  clear hd hB
  go_simp
  exact hK _ (Below.refl _ _)
 refine DetR.is (o := { dst := some 108, op := Op.call { callee := Callee.value (Operand.func 66), args := #[Operand.tmp 106, Operand.tmp 107], argTypes := #[78, 78] }, type := 4, pos := "law.go:107", after := #[{ on := 10, ground := Ground.data }, { on := 11, ground := Ground.data }, { on := 9, ground := Ground.chain }, { on := 9, ground := Ground.guard }], guard := some (9, true) }) (u := ?ux60) rfl (by decide) (fun T w' hb hd hB K hK => ?sx60) ?rx60
 case sx60 =>
  have e106 := hd 10 106 _ (by decide) (by kernel_rfl) rfl rfl
  replace e106 : T.getD 106 undef = _ := e106
  have e107 := hd 11 107 _ (by decide) (by kernel_rfl) rfl rfl
  replace e107 : T.getD 107 undef = _ := e107
  have eg := hd 9 105 _ (by decide) (by kernel_rfl) rfl rfl
  replace eg : T.getD 105 undef = .bool true := eg
  rw [if_pos (wanted_yes 9 105 true rfl rfl eg)]
  clear eg
  have hcl := hF12 w' hb
  clear hd hB
  go_simp
  go_at_call 66
  refine hcl.mono ?_
  rintro e w2 ⟨rfl, h2⟩
  exact hK _ h2
 refine DetR.is (o := { dst := some 109, op := Op.load 78 (Operand.tmp 6), type := 78, pos := "law.go:107", after := #[{ on := 9, ground := Ground.guard }], guard := some (9, true) }) (u := ?ux61) rfl (by decide) (fun T w' hb hd hB K hK => ?sx61) ?rx61
 case sx61 =>
  have e6 := (hB 6 (by kernel_rfl)).trans hT6
  have q6_0 : w'.cell? ⟨ga, 0, none⟩ = some (.bool xb) := (yaa_ (kB_ hX6 hb) 0).trans rfl
  have q6_1 : w'.cell? ⟨ga, 1, none⟩ = some (.int .i64 xi) := (yaa_ (kB_ hX6 hb) 1).trans rfl
  have q6_2 : w'.cell? ⟨ga, 2, none⟩ = some (.slice xA xn xc) := (yaa_ (kB_ hX6 hb) 2).trans rfl
  have q6_3 : w'.cell? ⟨ga, 3, none⟩ = some (.int .i64 xj) := (yaa_ (kB_ hX6 hb) 3).trans rfl
  have q6_4 : w'.cell? ⟨ga, 4, none⟩ = some (.slice xB xm xd) := (yaa_ (kB_ hX6 hb) 4).trans rfl
  have eg := hd 9 105 _ (by decide) (by kernel_rfl) rfl rfl
  replace eg : T.getD 105 undef = .bool true := eg
  rw [if_pos (wanted_yes 9 105 true rfl rfl eg)]
  clear eg
  clear hd hB
  go_simp
  exact hK _ (Below.refl _ _)
 refine DetR.is (o := { dst := some 110, op := Op.load 78 (Operand.tmp 12), type := 78, pos := "law.go:107", after := #[{ on := 9, ground := Ground.guard }], guard := some (9, true) }) (u := ?ux62) rfl (by decide) (fun T w' hb hd hB K hK => ?sx62) ?rx62
 case sx62 =>
  have e12 := (hB 12 (by kernel_rfl)).trans hT12
  have q12_0 : w'.cell? ⟨gt, 0, none⟩ = some (.bool tb) := (yaa_ (kB_ hX12 hb) 0).trans rfl
  have q12_1 : w'.cell? ⟨gt, 1, none⟩ = some (.int .i64 ti) := (yaa_ (kB_ hX12 hb) 1).trans rfl
  have q12_2 : w'.cell? ⟨gt, 2, none⟩ = some (.slice tA tn tc) := (yaa_ (kB_ hX12 hb) 2).trans rfl
  have q12_3 : w'.cell? ⟨gt, 3, none⟩ = some (.int .i64 tj) := (yaa_ (kB_ hX12 hb) 3).trans rfl
  have q12_4 : w'.cell? ⟨gt, 4, none⟩ = some (.slice tB tm td) := (yaa_ (kB_ hX12 hb) 4).trans rfl
  have eg := hd 9 105 _ (by decide) (by kernel_rfl) rfl rfl
  replace eg : T.getD 105 undef = .bool true := eg
  rw [if_pos (wanted_yes 9 105 true rfl rfl eg)]
  clear eg
  clear hd hB
  go_simp
  exact hK _ (Below.refl _ _)
 refine DetR.is (o := { dst := some 111, op := Op.call { callee := Callee.value (Operand.func 66), args := #[Operand.tmp 109, Operand.tmp 110], argTypes := #[78, 78] }, type := 4, pos := "law.go:107", after := #[{ on := 13, ground := Ground.data }, { on := 14, ground := Ground.data }, { on := 12, ground := Ground.chain }, { on := 9, ground := Ground.guard }], guard := some (9, true) }) (u := ?ux63) rfl (by decide) (fun T w' hb hd hB K hK => ?sx63) ?rx63
 case sx63 =>
  have e109 := hd 13 109 _ (by decide) (by kernel_rfl) rfl rfl
  replace e109 : T.getD 109 undef = _ := e109
  have e110 := hd 14 110 _ (by decide) (by kernel_rfl) rfl rfl
  replace e110 : T.getD 110 undef = _ := e110
  have eg := hd 9 105 _ (by decide) (by kernel_rfl) rfl rfl
  replace eg : T.getD 105 undef = .bool true := eg
  rw [if_pos (wanted_yes 9 105 true rfl rfl eg)]
  clear eg
  have hcl := hF15 w' hb
  clear hd hB
  go_simp
  go_at_call 66
  refine hcl.mono ?_
  rintro e w2 ⟨rfl, h2⟩
  exact hK _ h2
 refine DetR.is (o := { dst := some 112, op := Op.binOp BinOp.eql 4 (Operand.tmp 108) (Operand.tmp 111) 4, type := 4, pos := "law.go:107", after := #[{ on := 12, ground := Ground.data }, { on := 15, ground := Ground.data }, { on := 9, ground := Ground.guard }], guard := some (9, true) }) (u := .bool true) rfl (by decide) (fun T w' hb hd hB K hK => ?sx64) ?rx64
 case sx64 =>
  have e108 := hd 12 108 _ (by decide) (by kernel_rfl) rfl rfl
  replace e108 : T.getD 108 undef = _ := e108
  have e111 := hd 15 111 _ (by decide) (by kernel_rfl) rfl rfl
  replace e111 : T.getD 111 undef = _ := e111
  have eg := hd 9 105 _ (by decide) (by kernel_rfl) rfl rfl
  replace eg : T.getD 105 undef = .bool true := eg
  rw [if_pos (wanted_yes 9 105 true rfl rfl eg)]
  clear eg
  clear hd hB
  go_simp
  try simp only [beq_self_eq_true]
  exact hK _ (Below.refl _ _)
 refine DetR.is (o := { dst := some 113, op := Op.pick (Operand.tmp 105) (Operand.tmp 112) (Operand.const (Value.bool false)), type := 4, pos := "law.go:107", after := #[{ on := 9, ground := Ground.data }, { on := 16, ground := Ground.data }], guard := none }) (u := .bool true) rfl (by decide) (fun T w' hb hd hB K hK => ?sx65) ?rx65
 case sx65 =>
  have e105 := hd 9 105 _ (by decide) (by kernel_rfl) rfl rfl
  replace e105 : T.getD 105 undef = _ := e105
  have e112 := hd 16 112 _ (by decide) (by kernel_rfl) rfl rfl
  replace e112 : T.getD 112 undef = _ := e112
  rw [if_pos (yac_ _ rfl)]
  clear hd hB
  go_simp
  exact hK _ (Below.refl _ _)
 refine DetR.is (o := { dst := some 114, op := Op.move (Operand.tmp 113), type := 4, pos := "law.go:107", after := #[{ on := 17, ground := Ground.data }, { on := 15, ground := Ground.chain }], guard := none }) (u := .bool true) rfl (by decide) (fun T w' hb hd hB K hK => ?sx66) ?rx66
 case sx66 =>
  have e113 := hd 17 113 _ (by decide) (by kernel_rfl) rfl rfl
  replace e113 : T.getD 113 undef = _ := e113
  rw [if_pos (yac_ _ rfl)]
  clear hd hB
  go_simp
  exact hK _ (Below.refl _ _)
 refine DetR.is (o := { dst := some 115, op := Op.load 78 (Operand.tmp 11), type := 78, pos := "law.go:107", after := #[{ on := 18, ground := Ground.guard }], guard := some (18, true) }) (u := ?ux67) rfl (by decide) (fun T w' hb hd hB K hK => ?sx67) ?rx67
 case sx67 =>
  have e11 := (hB 11 (by kernel_rfl)).trans hT11
  have q11_0 : w'.cell? ⟨gn, 0, none⟩ = some (.bool n0) := (yaa_ (kB_ hX11 hb) 0).trans rfl
  have q11_1 : w'.cell? ⟨gn, 1, none⟩ = some (.int .i64 xi) := (yaa_ (kB_ hX11 hb) 1).trans rfl
  have q11_2 : w'.cell? ⟨gn, 2, none⟩ = some (.slice xA xn xc) := (yaa_ (kB_ hX11 hb) 2).trans rfl
  have q11_3 : w'.cell? ⟨gn, 3, none⟩ = some (.int .i64 xj) := (yaa_ (kB_ hX11 hb) 3).trans rfl
  have q11_4 : w'.cell? ⟨gn, 4, none⟩ = some (.slice xB xm xd) := (yaa_ (kB_ hX11 hb) 4).trans rfl
  have eg := hd 18 114 _ (by decide) (by kernel_rfl) rfl rfl
  replace eg : T.getD 114 undef = .bool true := eg
  rw [if_pos (wanted_yes 18 114 true rfl rfl eg)]
  clear eg
  clear hd hB
  go_simp
  exact hK _ (Below.refl _ _)
 refine DetR.cons (o := { dst := some 116, op := Op.call { callee := Callee.value (Operand.func 63), args := #[Operand.tmp 115], argTypes := #[78] }, type := 28, pos := "law.go:107", after := #[{ on := 19, ground := Ground.data }, { on := 18, ground := Ground.chain }, { on := 18, ground := Ground.guard }], guard := some (18, true) }) (RowTold k30 tl) rfl (by decide) (RowTold.grows _ _) (fun T w' hb hd hB K hK => ?sx68) ?rx68
 case sx68 =>
  have e115 := hd 19 115 _ (by decide) (by kernel_rfl) rfl rfl
  replace e115 : T.getD 115 undef = _ := e115
  have eg := hd 18 114 _ (by decide) (by kernel_rfl) rfl rfl
  replace eg : T.getD 114 undef = .bool true := eg
  rw [if_pos (wanted_yes 18 114 true rfl rfl eg)]
  clear eg
  have hcl := hF20 w' hb
  clear hd hB
  go_simp
  go_at_call 63
  refine hcl.mono ?_
  rintro e w2 ⟨u, rfl, h1, h2⟩
  exact hK _ _ h2 h1
 refine DetR.is (o := { dst := some 117, op := Op.call { callee := Callee.value (Operand.func 62), args := #[Operand.tmp 116, Operand.const (Value.slice none 0 0)], argTypes := #[28, 28] }, type := 4, pos := "law.go:107", after := #[{ on := 20, ground := Ground.data }, { on := 20, ground := Ground.chain }, { on := 18, ground := Ground.guard }], guard := some (18, true) }) (u := ?ux69) rfl (by decide) (fun T w' hb hd hB K hK => ?sx69) ?rx69
 case sx69 =>
  obtain ⟨A116, c116, e116, hl116, hC116⟩ := (hd 20 116 _ (by decide) (by kernel_rfl) rfl rfl)
  have eg := hd 18 114 _ (by decide) (by kernel_rfl) rfl rfl
  replace eg : T.getD 114 undef = .bool true := eg
  rw [if_pos (wanted_yes 18 114 true rfl rfl eg)]
  clear eg
  have hcl := hM w' A116 c116 hb hl116 hC116
  clear hd hB
  go_simp
  go_at_call 62
  refine hcl.mono ?_
  rintro e w2 ⟨rfl, h2⟩
  exact hK _ h2
 refine DetR.is (o := { dst := some 118, op := Op.pick (Operand.tmp 114) (Operand.tmp 117) (Operand.const (Value.bool false)), type := 4, pos := "law.go:107", after := #[{ on := 18, ground := Ground.data }, { on := 21, ground := Ground.data }], guard := none }) (u := .bool true) rfl (by decide) (fun T w' hb hd hB K hK => ?sx70) ?rx70
 case sx70 =>
  have e114 := hd 18 114 _ (by decide) (by kernel_rfl) rfl rfl
  replace e114 : T.getD 114 undef = _ := e114
  have e117 := hd 21 117 _ (by decide) (by kernel_rfl) rfl rfl
  replace e117 : T.getD 117 undef = _ := e117
  rw [if_pos (yac_ _ rfl)]
  clear hd hB
  go_simp
  exact hK _ (Below.refl _ _)
 refine DetR.is (o := { dst := some 119, op := Op.move (Operand.tmp 118), type := 4, pos := "law.go:107", after := #[{ on := 22, ground := Ground.data }, { on := 21, ground := Ground.chain }], guard := none }) (u := .bool true) rfl (by decide) (fun T w' hb hd hB K hK => ?sx71) ?rx71
 case sx71 =>
  have e118 := hd 22 118 _ (by decide) (by kernel_rfl) rfl rfl
  replace e118 : T.getD 118 undef = _ := e118
  rw [if_pos (yac_ _ rfl)]
  clear hd hB
  go_simp
  exact hK _ (Below.refl _ _)
 refine DetR.is (o := { dst := some 120, op := Op.call { callee := Callee.value (Operand.func 62), args := #[Operand.const (Value.slice none 0 0), Operand.const (Value.slice none 0 0)], argTypes := #[28, 28] }, type := 4, pos := "law.go:107", after := #[{ on := 23, ground := Ground.chain }, { on := 23, ground := Ground.guard }], guard := some (23, true) }) (u := ?ux72) rfl (by decide) (fun T w' hb hd hB K hK => ?sx72) ?rx72
 case sx72 =>
  have eg := hd 23 119 _ (by decide) (by kernel_rfl) rfl rfl
  replace eg : T.getD 119 undef = .bool true := eg
  rw [if_pos (wanted_yes 23 119 true rfl rfl eg)]
  clear eg
  have hcl := hF24 w' hb
  clear hd hB
  go_simp
  go_at_call 62
  refine hcl.mono ?_
  rintro e w2 ⟨rfl, h2⟩
  exact hK _ h2
 refine DetR.is (o := { dst := some 121, op := Op.unOp UnOp.not 4 (Operand.tmp 120), type := 4, pos := "law.go:107", after := #[{ on := 24, ground := Ground.data }, { on := 23, ground := Ground.guard }], guard := some (23, true) }) (u := .bool true) rfl (by decide) (fun T w' hb hd hB K hK => ?sx73) ?rx73
 case sx73 =>
  have e120 := hd 24 120 _ (by decide) (by kernel_rfl) rfl rfl
  replace e120 : T.getD 120 undef = _ := e120
  have eg := hd 23 119 _ (by decide) (by kernel_rfl) rfl rfl
  replace eg : T.getD 119 undef = .bool true := eg
  rw [if_pos (wanted_yes 23 119 true rfl rfl eg)]
  clear eg
  clear hd hB
  go_simp
  exact hK _ (Below.refl _ _)
 refine DetR.is (o := { dst := some 122, op := Op.pick (Operand.tmp 119) (Operand.tmp 121) (Operand.const (Value.bool false)), type := 4, pos := "law.go:107", after := #[{ on := 23, ground := Ground.data }, { on := 25, ground := Ground.data }], guard := none }) (u := .bool true) rfl (by decide) (fun T w' hb hd hB K hK => ?sx74) ?rx74
 case sx74 =>
  have e119 := hd 23 119 _ (by decide) (by kernel_rfl) rfl rfl
  replace e119 : T.getD 119 undef = _ := e119
  have e121 := hd 25 121 _ (by decide) (by kernel_rfl) rfl rfl
  replace e121 : T.getD 121 undef = _ := e121
  rw [if_pos (yac_ _ rfl)]
  clear hd hB
  go_simp
  exact hK _ (Below.refl _ _)
 refine DetR.is (o := { dst := some 4, op := Op.assign (Operand.tmp 122), type := 4, pos := "law.go:107", after := #[{ on := 26, ground := Ground.data }, { on := 24, ground := Ground.chain }, { on := 0, ground := Ground.phase }, { on := 1, ground := Ground.phase }, { on := 2, ground := Ground.phase }, { on := 3, ground := Ground.phase }, { on := 4, ground := Ground.phase }, { on := 5, ground := Ground.phase }, { on := 6, ground := Ground.phase }, { on := 7, ground := Ground.phase }, { on := 8, ground := Ground.phase }, { on := 9, ground := Ground.phase }, { on := 10, ground := Ground.phase }, { on := 11, ground := Ground.phase }, { on := 12, ground := Ground.phase }, { on := 13, ground := Ground.phase }, { on := 14, ground := Ground.phase }, { on := 15, ground := Ground.phase }, { on := 16, ground := Ground.phase }, { on := 17, ground := Ground.phase }, { on := 18, ground := Ground.phase }, { on := 19, ground := Ground.phase }, { on := 20, ground := Ground.phase }, { on := 21, ground := Ground.phase }, { on := 22, ground := Ground.phase }, { on := 23, ground := Ground.phase }, { on := 24, ground := Ground.phase }, { on := 25, ground := Ground.phase }, { on := 26, ground := Ground.phase }], guard := none }) (u := ?ux75) rfl (by decide) (fun T w' hb hd hB K hK => ?sx75) ?rx75
 case sx75 =>
  have e122 := hd 26 122 _ (by decide) (by kernel_rfl) rfl rfl
  replace e122 : T.getD 122 undef = _ := e122
  rw [if_pos (yac_ _ rfl)]
  clear hd hB
  go_simp
  exact hK _ (Below.refl _ _)
 refine DetR.done [some 96, some 97, some 98, some 99, some 100, some 101, some 102, some 103, some 104, some 105, some 106, some 107, some 108, some 109, some 110, some 111, some 112, some 113, some 114, some 115, some 116, some 117, some 118, some 119, some 120, some 121, some 122, some 4] (by kernel_rfl) rfl (by kernel_rfl) ?_
 intro v w' hb hv
 exact hK v w' hb (hv 27 _ (by decide) rfl)
end
end Go.Proofs.Ytpfddihcikiofaa.P
